/- A scanner in memory; what a function may touch; measure. -/
import Derived.Test.YtghlfpeifdikkaaDoorLexS
import Derived.Test.YtghlfpeifdikkaaDoorKeepIs
import Derived.Test.YtghlfpeifdikkaaDoorScope
namespace Go.Proofs.YtghlfpeifdikkaaDoor
open Go.RowKit Go.Proofs.YtghlfpeifdikkaaDoor.Lex

/-- of the blocks that were there, those outside S are as they were -/
structure Only (w w' : World) (S : Nat → Prop) : Prop where
  os : w'.os = w.os
  tape : w'.tape = w.tape
  output : w'.output = w.output
  size : w.heap.size ≤ w'.heap.size
  block : ∀ k, k < w.heap.size → ¬ S k → w'.heap[k]? = w.heap[k]?
section
variable {w w1 w2 : World} {S T : Nat → Prop}
theorem Only.refl (w : World) (S : Nat → Prop) : Only w w S := ⟨rfl, rfl, rfl, Nat.le_refl _, fun _ _ _ => rfl⟩
theorem Only.trans (h : Only w w1 S) (k : Only w1 w2 T) (hT : ∀ b, b < w.heap.size → T b → S b) : Only w w2 S :=
  ⟨k.os.trans h.os, k.tape.trans h.tape, k.output.trans h.output, Nat.le_trans h.size k.size, fun b hb hS => (k.block b (Nat.lt_of_lt_of_le hb h.size) (fun hx => hS (hT b hb hx))).trans (h.block b hb hS)⟩
theorem Only.mono (h : Only w w1 S) (hS : ∀ b, b < w.heap.size → S b → T b) : Only w w1 T := ⟨h.os, h.tape, h.output, h.size, fun b hb hT => h.block b hb (fun hx => hT (hS b hb hx))⟩
theorem Only.alloc (h : Only w w1 S) (o : Obj) : Only w (w1.alloc o) S :=
  h.trans (T := fun _ => False) ⟨rfl, rfl, rfl, by simp, fun k hk _ => Below.heap_alloc _ _ _ hk⟩ (fun _ _ h => h.elim)
theorem Only.setCell (h : Only w w1 S) (p : Addr) (u : Value) (hp : p.block < w.heap.size → S p.block) : Only w (w1.setCell p u) S :=
  h.trans (T := fun k => k = p.block) ⟨rfl, rfl, rfl, by simp, fun k _ hne => Below.heap_setCell _ _ _ _ hne⟩ (fun b hb e => by subst e; exact hp hb)
theorem Only.drew (h : Only w w1 S) : Only w w1.drew S := ⟨h.os, h.tape, h.output, h.size, h.block⟩
theorem Only.drewN (h : Only w w1 S) (n : Nat) : Only w (w1.drewN n) S := ⟨h.os, h.tape, h.output, h.size, h.block⟩
theorem Only.grown {row : Option Nat} (h : Only w w1 S) (hg : w1.grownBy w2 row) (hr : ∀ k, row = some k → k < w.heap.size → S k) : Only w w2 S :=
  h.trans (T := fun k => row = some k) ⟨hg.os, hg.tape, hg.output, hg.size, fun k hk hne => hg.block k hk (fun e => hne e.symm)⟩ (fun b hb e => hr b e hb)
theorem Only.below (h : Only w w1 S) (L : Nat) (hL : L ≤ w.heap.size) (hS : ∀ k, S k → L ≤ k) : Below L w w1 := ⟨h.os, h.tape, h.output, h.size, fun k hk => h.block k (by omega) (fun hx => by have := hS k hx; omega)⟩
theorem below_only (h : Below w.heap.size w w1) (S : Nat → Prop) : Only w w1 S := ⟨h.os, h.tape, h.output, h.size, fun k hk _ => h.block k hk⟩
theorem Blk.only {B : Nat} {cs : Array Value} {t : TypeId} (h : Blk w B cs t) (ho : Only w w1 S) (hS : ¬ S B) : Blk w1 B cs t := (ho.block B h.lt hS).trans h
theorem ownsRow_only {base : Nat} {e : TypeId} {size : Nat} {v : Value} {n : Nat} {xs : List Value} (h : w.ownsRow base e size v n xs) (ho : Only w w1 S) (hS : ∀ g, v.ownBlock = some g → ¬ S g) : w1.ownsRow base e size v n xs := by
  have hl := h.lt
  obtain ⟨h1, h2⟩ := h
  refine ⟨h1, ?_⟩
  rcases h2 with h2 | ⟨g, cap, cur, rfl, r2, r3, r⟩
  · exact .inl h2
  · exact .inr ⟨g, cap, cur, rfl, r2, (ho.block g (hl g rfl).2 (hS g rfl)).trans r3, r⟩
theorem ET.only (h : ET w) (ho : Only w w1 S) (hS : ¬ S 0) : ET w1 := by
  have := ho.block 0 h.lt hS
  unfold ET World.cell? at h ⊢
  rw [this]; exact h
end

/-- what a fault's pointer points to -/
def Wrong (w : World) (B : Nat) (x : Wr) (p : Value) : Prop :=
  (x.code = 0 ∧ p = .pointer none) ∨ (x.code ≠ 0 ∧ ∃ F, p = .pointer (some ⟨F, 0, none⟩) ∧ B < F ∧ Blk w F #[.int .i64 x.code, .int .i64 x.line, .int .i64 x.col] 59)
def scanC (s : ByteArray) (t : St) (told : Value) (n : Nat) (p : Value) : Array Value := #[.string s, .int .i64 t.at', .int .i64 t.line, .int .i64 t.begin', told, .int .i64 n, p]
/-- a scanner at block B -/
structure Scan (w : World) (B : Nat) (s : ByteArray) (t : St) (told : Value) (n : Nat) (p : Value) : Prop where
  blk : Blk w B (scanC s t told n p) 62
  wr : Wrong w B t.wrong p
theorem Wrong.only {w w1 : World} {B : Nat} {x : Wr} {p : Value} (h : Wrong w B x p) (ho : Only w w1 (· = B)) : Wrong w1 B x p := by
  rcases h with h | ⟨h1, F, h2, h3, h4⟩
  · exact .inl h
  · exact .inr ⟨h1, F, h2, h3, h4.only ho (by omega)⟩
/-- a run of the scanner: from one state to the next, touching its own block alone -/
def Went (w : World) (B : Nat) (s : ByteArray) (t' : St) (told : Value) (n : Nat) (w' : World) : Prop := (∃ p, Scan w' B s t' told n p) ∧ Only w w' (· = B)

theorem Went.refl {w : World} {B : Nat} {s : ByteArray} {t : St} {told : Value} {n : Nat} {p : Value} (h : Scan w B s t told n p) : Went w B s t told n w := ⟨⟨p, h⟩, Only.refl w _⟩
theorem Went.drew {w w' : World} {B : Nat} {s : ByteArray} {t : St} {told : Value} {n : Nat} (h : Went w B s t told n w') : Went w B s t told n w'.drew := by
  obtain ⟨⟨p, hb, hw⟩, ho⟩ := h
  exact ⟨⟨p, hb, hw⟩, ho.drew⟩
theorem Wrong.below {w w1 : World} {B : Nat} {x : Wr} {p : Value} (h : Wrong w B x p) (ho : Below w.heap.size w w1) : Wrong w1 B x p := by
  rcases h with h | ⟨h1, F, h2, h3, h4⟩
  · exact .inl h
  · exact .inr ⟨h1, F, h2, h3, h4.below ho h4.lt⟩
theorem Scan.below {w w1 : World} {B : Nat} {s : ByteArray} {t : St} {told : Value} {n : Nat} {p : Value} (h : Scan w B s t told n p) (ho : Below w.heap.size w w1) : Scan w1 B s t told n p := ⟨h.blk.below ho h.blk.lt, h.wr.below ho⟩
/-- a fault is found -/
theorem fault_set {w : World} {B : Nat} {s : ByteArray} {t : St} {told : Value} {n : Nat} (h : Scan w B s t told n (.pointer none)) (x : Wr) (hx : x.code ≠ 0) :
    Went w B s { t with wrong := x } told n ((w.setCell ⟨B, 6, none⟩ (.pointer (some ⟨w.heap.size, 0, none⟩))).alloc (.cells #[.int .i64 x.code, .int .i64 x.line, .int .i64 x.col] 59)) := by
  have hb := h.blk
  have hl := hb.lt
  refine ⟨⟨.pointer (some ⟨w.heap.size, 0, none⟩), ?_, .inr ⟨hx, w.heap.size, rfl, hl, ?_⟩⟩, ((Only.refl w (· = B)).setCell ⟨B, 6, none⟩ _ (fun _ => rfl)).alloc _⟩
  · exact (hb.set 6 (.pointer (some ⟨w.heap.size, 0, none⟩))).alloc _
  · have := Blk.new (w.setCell ⟨B, 6, none⟩ (.pointer (some ⟨w.heap.size, 0, none⟩))) #[.int .i64 x.code, .int .i64 x.line, .int .i64 x.col] 59
    simpa using this
set_option maxHeartbeats 2000000 in
theorem measure_any (w : World) (B : Nat) (s : ByteArray) (t : St) (told : Value) (n : Nat) (hs : s.size ≤ 140737488351232) (hS : Scan w B s t told n (.pointer none)) (hi : t.at' ≤ s.size) :
    Calls Tryd.prog 23 #[.pointer (some ⟨B, 0, none⟩)] w fun e w' => e = .returned (.tuple #[]) ∧ Went w B s (Lex.measure s t) told n w' := by
  have HS := Sd.mk hS
  have hb := hS.blk
  unfold scanC at hb
  have c0 := hb.cell (i := 0) rfl
  have c1 := hb.cell (i := 1) rfl
  have c2 := hb.cell (i := 2) rfl
  have c6 := hb.cell (i := 6) rfl
  have cf := hb.frozen
  have hlt := hb.lt
  clear hb hS
  go_enter Tryd.func23, Tryd.ntmps23
  go_wp2
  go_loop [2] (fun i => ∃ j : Nat, t.at' ≤ j ∧ j ≤ eol s t.at' ∧ i = .int .i64 j) (fun i => s.size - (intOf i).toNat)
  case atStart => exact ⟨t.at', by omega, eol_le s t.at', rfl⟩
  case round =>
    obtain ⟨j, hj1, hj2, rfl⟩ := hrel
    have he := eol_ge s t.at' hi
    by_cases hje : j < eol s t.at'
    · have h10 := eol_in s t.at' j hj1 hje
      have e10 : (((s[j]'(by omega)).toNat : Int) != 10) = true := by have := get_at s j (by omega); simp; omega
      clear h10
      go_wp2
      go_round
      case rel => exact ⟨j + 1, by omega, by omega, by go_num⟩
      case measure => simp [intOf]; omega
    · have hje2 : eol s t.at' = j := by omega
      have HJ := Sd.mk hje2
      clear hje hj2
      rw [hje2] at he
      clear hje2
      rcases Nat.lt_or_ge j s.size with hjs | hjs
      · have e10 : (((s[j]'hjs).toNat : Int) != 10) = false := by have := get_at s j hjs; have := eol_byte s t.at' (by have := HJ.out; omega); rw [HJ.out] at this; simp; omega
        go_wp2
        · go_end0
          have HM : Lex.measure s t = { t with wrong := ⟨93, t.line, 1⟩ } := by unfold Lex.measure; rw [HJ.out, if_pos (by omega)]
          rw [HM]
          exact ⟨rfl, fault_set HS.out ⟨93, t.line, 1⟩ (by simp)⟩
        · go_end0
          have HM : Lex.measure s t = t := by unfold Lex.measure; rw [HJ.out, if_neg (by omega)]
          rw [HM]
          exact ⟨rfl, Went.refl HS.out⟩
      · go_wp2
        · go_end0
          have HM : Lex.measure s t = { t with wrong := ⟨93, t.line, 1⟩ } := by unfold Lex.measure; rw [HJ.out, if_pos (by omega)]
          rw [HM]
          exact ⟨rfl, fault_set HS.out ⟨93, t.line, 1⟩ (by simp)⟩
        · go_end0
          have HM : Lex.measure s t = t := by unfold Lex.measure; rw [HJ.out, if_neg (by omega)]
          rw [HM]
          exact ⟨rfl, Went.refl HS.out⟩
end Go.Proofs.YtghlfpeifdikkaaDoor
