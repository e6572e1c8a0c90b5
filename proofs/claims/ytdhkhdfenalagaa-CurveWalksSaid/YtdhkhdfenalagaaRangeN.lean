/- A range over a function whose iterator keeps a count in a cell of its own and gives N values, and whose body never leaves: the law of the walk, for any program. -/
import Derived.RangeFuncKeeps
import Derived.RangeFuncBound
import Derived.RangeFuncLeaves
namespace Go.Proofs.Ytdhkhdfenalagaa
open Go.RowKit

/-- the way in which the body ends: on to the next round -/
def bodyGoes (I It : Nat → World → Prop) (k : Nat) (W : World) : Exit → Act → World → Prop
  | .normal, _, W' => KeepsOthers W W' ∧ I (k + 1) W' ∧ It k W'
  | _, _, _ => False

variable {F : Fence} {n : Nat} {P : Program}
theorem wpIn_rangeFunc_count {g : Operand} {ps : Array Tmp} {assign body : Code} {Q : Exit → Act → World → Prop} {a : Act} {w : World}
    (hro : F.round = none) (h1 : 1 ≤ n) {gf : Nat} {lb : Array Value} (hg : a.eval g = .func (.func gf) #[] lb) (hFg : F.fn gf) (eg : ∀ args w, (callFunc gf args).run P w = .ok (.enter gf args) w)
    (vals : Nat → Array Value) (N : Nat) (hps : ∀ k, (vals k).size = ps.size) (It : Nat → World → Prop) (St : World → World → Prop)
    (hseq : ∀ (l : Nat) (J : Nat → World → Prop) (W : World),
      (∀ k W1, k < N → J k W1 → It k W1 → YieldAt F (n - 1 - 1) P l (vals k) W1 fun e W' => e = .returned (.bool true) ∧ J (k + 1) W' ∧ It k W') →
      (∀ k W1 W2, J k W1 → St W1 W2 → J k W2) → J 0 W → It 0 W →
      CallsIn F (n - 1) P gf (#[.func (.yield l) #[] #[]] ++ lb) W fun e W' => (∃ v, e = .returned v) ∧ J N W')
    (hItPut : ∀ k W l o o', w.heap.size ≤ l → W.heap[l]? = some o → o.isCells = false → It k W → It k (W.putObj l o'))
    (hStKeep : ∀ W1 W2, St W1 W2 → ∀ (l : Nat) (o : Obj), W1.heap[l]? = some o → o.isCells = false → W2.heap[l]? = some o)
    (I : Nat → World → Prop) (hISt : ∀ k W1 W2, I k W1 → St W1 W2 → I k W2)
    (hIPut : ∀ k W l o o', w.heap.size ≤ l → W.heap[l]? = some o → o.isCells = false → I k W → I k (W.putObj l o'))
    (h0 : ∀ o o', I 0 ((w.alloc o).alloc o') ∧ It 0 ((w.alloc o).alloc o')) (a₁ : Nat → Act)
    (hassign : ∀ (l k : Nat) (W : World) (K : Act → World → Prop), K (a₁ k) W →
      assign.wpIn (F.inRound l) (n - 1 - 1) P (Exit.then K (fun _ _ _ => False)) { tmps := (ps.zip (vals k)).foldl (fun t (p, v) => t.setIfInBounds p v) a.tmps, defers := [] } W)
    (hbody : ∀ (l k : Nat) (W : World), k < N → I k W → It k W → body.wpIn (F.inRound l) (n - 1 - 1) P (bodyGoes I It k W) (a₁ k) W)
    (hdone : ∀ (D : Nat) (W : World), w.heap.size ≤ D → I N W → W.heap[D]? = some (.deferred (some [])) → Q .normal { a with defers := { target := .collected D, args := #[] } :: a.defers } W) :
    (Code.rangeFunc g ps assign body).wpIn F n P Q a w := by
  refine wpIn_rangeFunc ?_
  intro fn hfn
  rw [hro]
  obtain ⟨rec, hrec⟩ : ∃ rec : LoopState → Option Code → Loop, rec = fun st pe => { state := st, pending := pe, fn, tmps := a.tmps, params := ps, assign, body, defers := w.heap.size } := ⟨_, rfl⟩
  obtain ⟨W1, hW1⟩ : ∃ W1, (w.alloc (.deferred (some []))).alloc (.loop (rec .ready none)) = W1 := ⟨_, rfl⟩
  have hL1 : W1.heap[w.heap.size + 1]? = some (.loop (rec .ready none)) := by
    rw [← hW1]; have := World.alloc_heap_new (w.alloc (.deferred (some []))) (.loop (rec .ready none)); rwa [World.size_alloc] at this
  have hK1 : W1.heap[w.heap.size]? = some (.deferred (some [])) := by
    rw [← hW1]; exact (Below.heap_alloc _ _ _ (by simp)).trans (World.alloc_heap_new w _)
  have hI1 : I 0 W1 ∧ It 0 W1 := by rw [← hW1]; exact h0 _ _
  refine ⟨w.heap.size + 1, [{ target := .collected w.heap.size, args := #[] }], W1, { target := .fn (.func gf) lb, args := #[.func (.yield (w.heap.size + 1)) #[] #[]] }, W1, gf,
    #[.func (.yield (w.heap.size + 1)) #[] #[]] ++ lb, W1, ?_, ?_, ?_, ?_, fun _ => h1, ?_⟩
  · rw [← hW1, hrec]; exact run_enterLoop_outer _ _ _ _ _
  · simp only [resolve, hg]
    simp [go_sem]
  · intro f' hf'; simp [Target.leads] at hf'; subst hf'; exact hFg
  · simp [invoke, go_sem, eg]
  · refine (hseq (w.heap.size + 1)
      (fun k W => I k W ∧ W.heap[w.heap.size + 1]? = some (.loop (rec .ready none)) ∧ W.heap[w.heap.size]? = some (.deferred (some [])))
      W1 ?_ (fun k A B hs hst => ⟨hISt k A B hs.1 hst, hStKeep A B hst _ _ hs.2.1 rfl, hStKeep A B hst _ _ hs.2.2 rfl⟩) ⟨hI1.1, hL1, hK1⟩ hI1.2).mono ?_
    · rintro k W hk ⟨hi, hl, hkk⟩ hit
      have hlt : w.heap.size + 1 < W.heap.size := (Array.getElem?_eq_some_iff.1 hl).1
      have hy := run_yield (P := P) (args := vals k) hl (by rw [hrec]; exact hps k)
      rw [hrec] at hy
      refine ⟨fn, _, assign, body, hy, roundIn_of_wpIn hfn (hassign _ k W _ ⟨_, run_beginRound hl (by rw [hrec]), ?_⟩)⟩
      have hl2 : (W.putObj (w.heap.size + 1) (.loop { rec .ready none with state := .busy })).heap[w.heap.size + 1]? = some (.loop { rec .ready none with state := .busy }) := World.putObj_heap_same hlt
      have hk2 : (W.putObj (w.heap.size + 1) (.loop { rec .ready none with state := .busy })).heap[w.heap.size]? = some (.deferred (some [])) := (World.putObj_heap_other (by omega)).trans hkk
      refine wpIn_mono (hbody _ k _ hk (hIPut _ _ _ _ _ (by omega) hl rfl hi) (hItPut _ _ _ _ _ (by omega) hl rfl hit)) ?_
      rintro e a3 W3 hp
      cases e with
      | normal =>
        obtain ⟨hk3, hi3, hit3⟩ := hp
        have hl3 := hk3.same _ _ hl2 rfl
        have hr := run_endRound (P := P) none hl3
        rw [hrec] at hr
        refine ⟨_, _, hr, rfl, ⟨hIPut _ _ _ _ _ (by omega) hl3 rfl hi3, ?_, (World.putObj_heap_other (by omega)).trans (hk3.same _ _ hk2 rfl)⟩, hItPut _ _ _ _ _ (by omega) hl3 rfl hit3⟩
        rw [hrec]
        exact World.putObj_heap_same (Array.getElem?_eq_some_iff.1 hl3).1
      | ret => exact hp.elim
      | exit id => exact hp.elim
      | goto t => exact hp.elim
      | panic ch => exact hp.elim
      | outgrown => exact hp.elim
    · rintro e W2 ⟨⟨v, rfl⟩, hi, hl, hk⟩
      exact ⟨none, _, by have := run_endLoop (P := P) hl (by rw [hrec]; simp); rw [hrec] at this; exact this, hdone _ _ (Nat.le_refl _) (hIPut _ _ _ _ _ (by omega) hl rfl hi) ((World.putObj_heap_other (by omega)).trans hk)⟩

end Go.Proofs.Ytdhkhdfenalagaa
