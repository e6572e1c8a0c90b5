/- inside: of some rules those that have something in a box. -/
import Derived.Test.YtljliopmphaoeaaW4
import Derived.Test.YtljliopmphaoeaaQ10
namespace Go.Proofs.Ytljliopmphaoeaa
open Go Go.RowKit Go.Proofs.Ytljliopmphaoeaa.Q

/-- boxes in memory, one behind the other -/
structure BoxesAt (W : World) (A : Option Addr) (bs : List Bx) : Prop where
  at' : ∀ k (h : k < bs.length), ∃ g o, A = some ⟨g, o, none⟩ ∧ g < W.heap.size ∧ ∀ i u, #[.int .u32 bs[k].src.lo, .int .u32 bs[k].src.hi, .int .u32 bs[k].dst.lo, .int .u32 bs[k].dst.hi, .int .u16 bs[k].sp.lo, .int .u16 bs[k].sp.hi, .int .u16 bs[k].dp.lo, .int .u16 bs[k].dp.hi, .int .u8 bs[k].pr.v, .int .u8 bs[k].pr.c][i]? = some u → W.cell? ⟨g, o + k * 10 + i, none⟩ = some u
theorem BoxesAt.below {W W' : World} {A : Option Addr} {bs : List Bx} (h : BoxesAt W A bs) (hb : Below W.heap.size W W') : BoxesAt W' A bs :=
  ⟨fun k hk => by
    obtain ⟨g, o, h1, h2, h3⟩ := h.at' k hk
    exact ⟨g, o, h1, Nat.lt_of_lt_of_le h2 hb.size, fun i u hu => (hb.cell (p := ⟨g, o + k * 10 + i, none⟩) h2).trans (h3 i u hu)⟩⟩
/-- numbers in memory -/
structure NumsAt (W : World) (A : Option Addr) (l : List Nat) : Prop where
  at' : ∀ k (h : k < l.length), ∃ g o, A = some ⟨g, o, none⟩ ∧ g < W.heap.size ∧ W.cell? ⟨g, o + k, none⟩ = some (.int .i64 l[k])
theorem NumsAt.below {W W' : World} {A : Option Addr} {l : List Nat} (h : NumsAt W A l) (hb : Below W.heap.size W W') : NumsAt W' A l :=
  ⟨fun k hk => by
    obtain ⟨g, o, h1, h2, h3⟩ := h.at' k hk
    exact ⟨g, o, h1, Nat.lt_of_lt_of_le h2 hb.size, (hb.cell (p := ⟨g, o + k, none⟩) h2).trans h3⟩⟩
/-- of some rules those that have something in a box, up to the first that has all of it -/
def insideI (bs : List Bx) (b : Bx) : List Nat → List Nat
  | [] => []
  | i :: t => match bs[i]? with
    | none => insideI bs b t
    | some x => if x.meets b = true then (if b.within x = true then [i] else i :: insideI bs b t) else insideI bs b t
theorem insideI_len (bs : List Bx) (b : Bx) : ∀ l, (insideI bs b l).length ≤ l.length
  | [] => Nat.le_refl _
  | i :: t => by
    have h := insideI_len bs b t
    unfold insideI
    cases bs[i]? with
    | none => simp only [List.length_cons]; omega
    | some x => simp only []; split <;> (try split) <;> simp <;> omega
theorem insideI_sub (bs : List Bx) (b : Bx) : ∀ l, ∀ i ∈ insideI bs b l, i ∈ l
  | [] => fun i h => h
  | j :: t => by
    intro i h
    have ih := insideI_sub bs b t
    unfold insideI at h
    cases hb : bs[j]? with
    | none => rw [hb] at h; exact List.mem_cons_of_mem _ (ih i h)
    | some x =>
      rw [hb] at h
      simp only [] at h
      split at h
      · split at h
        · simp at h; subst h; exact List.mem_cons_self
        · rcases List.mem_cons.1 h with rfl | h
          · exact List.mem_cons_self
          · exact List.mem_cons_of_mem _ (ih i h)
      · exact List.mem_cons_of_mem _ (ih i h)
theorem insideI_at (bs : List Bx) (b : Bx) (l : List Nat) (k : Nat) (hk : k < l.length) (hi : l[k] < bs.length) :
    insideI bs b (l.drop k) = if bs[l[k]].meets b = true then (if b.within bs[l[k]] = true then [l[k]] else l[k] :: insideI bs b (l.drop (k + 1))) else insideI bs b (l.drop (k + 1)) := by
  rw [List.drop_eq_getElem_cons hk]
  conv => lhs; unfold insideI
  rw [List.getElem?_eq_getElem hi]
theorem insideI_no (bs : List Bx) (b : Bx) (l : List Nat) (k : Nat) (hk : k < l.length) (hi : l[k] < bs.length) (h : bs[l[k]].meets b = false) : insideI bs b (l.drop k) = insideI bs b (l.drop (k + 1)) := by
  rw [insideI_at bs b l k hk hi, if_neg (by simp [h])]
theorem insideI_last (bs : List Bx) (b : Bx) (l : List Nat) (k : Nat) (hk : k < l.length) (hi : l[k] < bs.length) (h : bs[l[k]].meets b = true) (h2 : b.within bs[l[k]] = true) : insideI bs b (l.drop k) = [l[k]] := by
  rw [insideI_at bs b l k hk hi, if_pos h, if_pos h2]
theorem insideI_more (bs : List Bx) (b : Bx) (l : List Nat) (k : Nat) (hk : k < l.length) (hi : l[k] < bs.length) (h : bs[l[k]].meets b = true) (h2 : b.within bs[l[k]] = false) : insideI bs b (l.drop k) = l[k] :: insideI bs b (l.drop (k + 1)) := by
  rw [insideI_at bs b l k hk hi, if_pos h, if_neg (by simp [h2])]
end Go.Proofs.Ytljliopmphaoeaa
