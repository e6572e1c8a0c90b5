/- What a row's first world has in the library's table of powers, whatever its values; and a row's builder that hands on the world's shape. -/
import Derived.Test.YtghlfpeifdikkaaDoorFmt
import Derived.HandedShaped
import Derived.Handed
namespace Go.Proofs.YtghlfpeifdikkaaDoor
open Go Go.RowKit

theorem cell_int {P : Program} {w : World} {r : Reach} {base : Nat} {t : TypeId} {v : Value} {k : IntKind} (hu : P.underlying t = some (.int k)) (h : Cell.ok P w r base t v) : ∃ n, v = .int k n := by
  unfold Cell.ok at h
  rw [hu] at h
  cases v <;> first | (obtain ⟨rfl, _⟩ := h; exact ⟨_, rfl⟩) | simp at h
theorem row_ints {P : Program} {w : World} {g n : Nat} {t e : TypeId} {zero : Array Value} {k : IntKind} (h : w.ShapedOpen P) (hg : g < P.globals.size)
    (h0 : ((begin P (fun _ _ => 0) default).world.heap[g]?).bind Obj.row? = some (zero, t)) (hz : zero.size = n)
    (hb : P.buildable t = true) (hc : P.cellTypes P.depth t = some (List.replicate n e)) (hu : P.underlying e = some (.int k)) :
    (∃ z : Nat → Int, ∀ j, j < n → w.cell? ⟨g, j, none⟩ = some (.int k (z j))) ∧ g < w.heap.size := by
  obtain ⟨cs, hh, hs, hr⟩ := h.1 g zero t hg h0
  refine ⟨?_, (Array.getElem?_eq_some_iff.1 hh).1⟩
  obtain ⟨ts, hts, _, hall⟩ := hr hb
  rw [hc] at hts
  cases hts
  refine ⟨fun j => match cs[j]? with | some (.int _ n) => n | _ => 0, fun j hj => ?_⟩
  have hk2 : j < cs.size := by omega
  have hcell : w.cell? ⟨g, j, none⟩ = some cs[j] := by simp [World.cell?, hh, hk2]
  obtain ⟨u, hu2, hok⟩ := hall j cs[j] (by simp [hk2])
  have hu' : u = e := by
    rw [List.length_replicate, Nat.mod_eq_of_lt hj, List.getElem?_replicate, if_pos hj] at hu2
    exact (Option.some.inj hu2).symm
  subst hu'
  obtain ⟨m, hm⟩ := cell_int hu hok
  rw [hcell, hm]
  simp only [Array.getElem?_eq_getElem hk2, hm]
theorem tab_zero : ((begin Tryd.prog (fun _ _ => 0) default).world.heap[1]?).bind Obj.row? = some (Array.replicate 20 (.int .u64 0), 126) := by kernel_rfl
theorem tab_types : Tryd.prog.cellTypes Tryd.prog.depth 126 = some (List.replicate 20 86) := by kernel_rfl
theorem tab_build : Tryd.prog.buildable 126 = true := by kernel_rfl
theorem tab_glob : 1 < Tryd.prog.globals.size := of_decide_eq_true (by kernel_rfl)
theorem tab_of_shape {w : World} (h : w.ShapedOpen Tryd.prog) : (∃ z, TabAny w z) ∧ 1 < w.heap.size :=
  row_ints h tab_glob tab_zero (by simp) tab_build tab_types Tryd.underlying86
/-- the builder of a row with listed variables, the world's shape handed on -/
theorem returnsIn_shaped {H : Type} {enc : TypeId × Value → H} {a : Assume} {C : Checked} {os : Os} {f : FuncId} {fn : Func} {s : ChangeSpec} {conds : List PathCond} {apart fresh handsOn again : Bool} {X : World → Array Value → Prop}
    (hX : ∀ (w w' : World) (args : Array Value), w.heap = w'.heap → X w args → X w' args)
    (own : ownKnob C.prog.godebug = none) (started : os.Started) (noInit : C.prog.inits.idxOf? f = none) (hfn : C.prog.funcs[f]? = some fn)
    (witness : ∃ (w : World) (tape : Tape) (i : Input), w.os = os ∧ (w.forCall tape i).Shaped C.prog ∧ i.vars = [] ∧ Input.okWide C.prog (w.forCall tape i) .any w.heap.size f i ∧
      ((s.pre enc C.prog fn conds apart (w.forCall tape i).memory i.args ∧ X (w.forCall tape i).memory i.args) ∧ sizedMet enc C.prog fn (OpenSpec.ofChange s) apart (w.forCall tape i).memory i.args) ∧ a.holds C.prog (lone (Frame.enter C.prog f i.args .normal) [] (w.forCall tape i)))
    (contract : ∀ (W : World) (base : Nat) (args : Array Value) (ds gs : List (DataW H)) (before : List MemPlace),
      (∀ (j : Nat) t v, fn.params[j]? = some t → args[j]? = some v → Value.okWide C.prog W .any base t v) →
      DataW.Whole enc C.prog fn.params.toList s.vars apart W args.toList ds gs before →
      conds.all (PathCond.test C.prog ⟨fn.params.toList, ds, s.plain.varTypes C.prog, gs⟩) = true →
      (DataW.weightsEach C.prog (fn.params.toList ++ s.plain.varTypes C.prog) (ds ++ gs)).all (· ≤ reachBytes) = true → (X W args ∧ W.ShapedOpen C.prog) →
      a.holds C.prog (lone (Frame.enter C.prog f args .normal) [] W) →
      Calls C.prog f args W fun e W' => ∃ v, e = .returned v ∧ s.post enc C.prog fn apart fresh handsOn again W args v W') :
    ReturnsInHanded a C os f .any (fun w args => (s.pre enc C.prog fn conds apart w args ∧ X w args) ∧ sizedMet enc C.prog fn (OpenSpec.ofChange s) apart w args) (s.post enc C.prog fn apart fresh handsOn again) := by
  refine returnsInHanded_of_calls own started noInit witness ?_
  intro w tape i _ hsh _ hok hpre hholds
  obtain ⟨_, _, _, fn', hfn', _, _, _, _, hval⟩ := hok
  have e : fn' = fn := Option.some.inj (hfn'.symm.trans hfn)
  subst e
  obtain ⟨⟨⟨ds, gs, before, hw, hc⟩, hx⟩, hz⟩ := hpre
  have hw' := DataW.Whole.of_heap (w' := w.forCall tape i) (by rfl) hw
  refine (contract (w.forCall tape i) w.heap.size i.args ds gs before hval hw' hc (hz.weights hw) ⟨hX _ _ _ (by rfl) hx, hsh⟩ hholds).mono fun e W' ⟨v, he, hp⟩ => ?_
  subst he
  exact ChangeSpec.post_blind hp
end Go.Proofs.YtghlfpeifdikkaaDoor
