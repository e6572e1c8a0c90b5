/- Two lists of the same tokens are the same. -/
import Derived.Laws.StructEq
import Derived.Test.YtghlfpeifdikkaaDoorLexB
namespace Go.Proofs.YtghlfpeifdikkaaDoor
open Go.RowKit Go.Proofs.YtghlfpeifdikkaaDoor.Lex

/-- the cells of one token at an address -/
structure TokAt (w : World) (g o : Nat) (t : Tk) : Prop where
  c0 : w.cell? ⟨g, o, none⟩ = some (.int .i64 t.kind)
  c1 : w.cell? ⟨g, o + 1, none⟩ = some (.string t.text)
  c2 : w.cell? ⟨g, o + 2, none⟩ = some (.int .u32 t.value)
  c3 : w.cell? ⟨g, o + 3, none⟩ = some (.int .i64 t.line)
  c4 : w.cell? ⟨g, o + 4, none⟩ = some (.int .i64 t.col)
theorem tksC_get (l : List Tk) (i f : Nat) (h : i < l.length) (hf : f < 5) : (tksC l)[i * 5 + f]? = (tkC l[i])[f]? := by
  induction l generalizing i with
  | nil => simp at h
  | cons t l ih =>
    rw [show tksC (t :: l) = tkC t ++ tksC l from rfl]
    cases i with
    | zero => rw [List.getElem?_append_left (by simp [tkC]; omega)]; simp
    | succ i =>
      rw [List.getElem?_append_right (by simp [tkC]; omega)]
      have := ih i (by simp at h; omega)
      rw [show (i + 1) * 5 + f - (tkC t).length = i * 5 + f from by simp [tkC]; omega, this]; rfl
theorem own_cells {w : World} {B : Nat} {v : Value} {l : List Tk} (h : Own w B v l) :
    (v = .slice none 0 0 ∧ l = []) ∨ ∃ g cap, v = .slice (some ⟨g, 0, none⟩) l.length cap ∧ B ≤ g ∧ g < w.heap.size ∧ l.length ≤ cap ∧ cap ≤ maxLen ∧ ∀ i (hi : i < l.length), TokAt w g (i * 5) l[i] := by
  have hc := fun g e => World.ownsRow.cells h (g := g) e
  rcases h.2 with ⟨h1, h2⟩ | ⟨g, cap, cur, h1, h2, h3, h4, h5, h6, h7⟩
  · exact .inl ⟨h1, List.eq_nil_of_length_eq_zero h2⟩
  · refine .inr ⟨g, cap, h1, h2, (Array.getElem?_eq_some_iff.1 h3).1, h4, h5, fun i hi => ?_⟩
    have hc' := hc g (by rw [h1]; rfl)
    have e : ∀ j, ((⟨g, 0, none⟩ : Addr).add j) = ⟨g, j, none⟩ := fun j => by unfold Addr.add; split <;> simp_all
    have k : ∀ f, f < 5 → ∀ u, (tkC l[i])[f]? = some u → w.cell? ⟨g, i * 5 + f, none⟩ = some u := fun f hf u hu => by
      rw [← e]; exact hc' _ _ (by rw [tksC_get l i f hi hf]; exact hu)
    exact ⟨k 0 (by omega) _ rfl, k 1 (by omega) _ rfl, k 2 (by omega) _ rfl, k 3 (by omega) _ rfl, k 4 (by omega) _ rfl⟩
/-- the world has drawn, and nothing else -/
def Drew (w w' : World) : Prop := ∃ n, w' = w.drewN n
theorem Drew.refl (w : World) : Drew w w := ⟨0, rfl⟩

set_option maxHeartbeats 4000000 in
theorem same_any (l : List Tk) (B1 B2 : Nat) (v1 v2 : Value) (w : World) (h1 : Own w B1 v1 l) (h2 : Own w B2 v2 l) (hl : l.length ≤ 140737488351232) :
    Calls Tryd.prog 11 #[v1, v2] w fun e w' => e = .returned (.bool true) ∧ Drew w w' := by
  rcases own_cells h1 with ⟨rfl, hn⟩ | ⟨g1, c1, rfl, _, _, hc1, _, t1⟩
  · subst hn
    rcases own_cells h2 with ⟨rfl, _⟩ | ⟨g2, c2, rfl, _, _, hc2, _, t2⟩
    · go_enter Tryd.func11, Tryd.ntmps11
      go_wp2
      go_loop [5] (fun i => i = .int .i64 0) (fun _ => 0)
      case atStart => rfl
      case round =>
        obtain rfl := hrel
        go_wp2
        go_ret
        exact ⟨rfl, Drew.refl _⟩
    · go_enter Tryd.func11, Tryd.ntmps11
      go_wp2
      go_loop [5] (fun i => i = .int .i64 0) (fun _ => 0)
      case atStart => rfl
      case round =>
        obtain rfl := hrel
        go_wp2
        go_ret
        exact ⟨rfl, Drew.refl _⟩
  · rcases own_cells h2 with ⟨rfl, hn⟩ | ⟨g2, c2, rfl, _, _, hc2, _, t2⟩
    · subst hn
      go_enter Tryd.func11, Tryd.ntmps11
      go_wp2
      go_loop [5] (fun i => i = .int .i64 0) (fun _ => 0)
      case atStart => rfl
      case round =>
        obtain rfl := hrel
        go_wp2
        go_ret
        exact ⟨rfl, Drew.refl _⟩
    · have T1 := Sd.mk t1
      have T2 := Sd.mk t2
      clear t1 t2 h1 h2
      go_enter Tryd.func11, Tryd.ntmps11
      go_wp2
      go_loopw [5] (fun i wr => ∃ k : Nat, k ≤ l.length ∧ i = .int .i64 k ∧ Drew w wr) (fun i _ => l.length - (intOf i).toNat)
      case atStart => exact ⟨0, by omega, rfl, Drew.refl _⟩
      case round =>
        obtain ⟨k, hk, rfl, n, rfl⟩ := hrel
        by_cases hlt : k < l.length
        · obtain ⟨a0, a1, a2, a3, a4⟩ := T1.out k hlt
          obtain ⟨b0, b1, b2, b3, b4⟩ := T2.out k hlt
          go_wp2
          go_quiet (fail)
          go_wp2
          go_roundw
          case rel => exact ⟨k + 1, by omega, by go_num, _, rfl⟩
          case measure => simp [intOf]; omega
        · go_wp2
          go_ret
          exact ⟨rfl, _, rfl⟩
end Go.Proofs.YtghlfpeifdikkaaDoor
