/- A region that draws its order, all but its last operations only reading, in a round of a range over a function: it is walked once. -/
import Derived.StillTailTactics
import Derived.OrdersIn
import Derived.CallsIn
import Derived.RangeFuncCalls
import Derived.TacticsIn
namespace Go.Proofs.Ytdhkhdfenalagaa
open Go

theorem oper_wpIn_of_wp {P : Program} {o : Oper} {a : Act} {w : World} {K : Act → World → Prop} {Q : Exit → Act → World → Prop} (l n : Nat) (hd : ∀ c, o.op ≠ .defer c) (h : o.wp P a w K Q) :
    o.wpIn (Fence.wide.inRound l) n P a w K Q := by
  refine ⟨fun _ _ => trivial, ?_⟩
  rw [Fence.inRound_round, Oper.semAt_some l _ _ hd]
  unfold Oper.wp at h
  generalize (execOp a.eval o).run P w = r at *
  cases r with
  | ok x w' =>
    by_cases h1 : ∃ f args, x = .enter f args
    · obtain ⟨f, args, rfl⟩ := h1
      exact ⟨fun hx => (by simp [Fence.wide] at hx), CallsIn.inRound l (callsIn_wide.2 h)⟩
    by_cases h2 : ∃ row args, x = .row row args
    · obtain ⟨row, args, rfl⟩ := h2
      refine ⟨fun hx => (by simp [Fence.wide] at hx), fun c cs _ => ?_⟩
      obtain ⟨v, w'', hv, hs⟩ := h c cs
      exact ⟨v, w'', hv, stepsIn_wide.2 hs⟩
    cases x <;> first | exact h | exact h.elim | exact absurd ⟨_, _, rfl⟩ h1 | exact absurd ⟨_, _, rfl⟩ h2
  | halt x w' => cases x <;> first | exact h | exact h.elim

theorem wpAnyIn_of_wpAny {P : Program} {md : Region.Mode} {ops : Array Oper} {Q : Exit → Act → World → Prop} (l n : Nat) (hd : ∀ (i : Nat) (o : Oper), ops[i]? = some o → ∀ c, o.op ≠ .defer c) (hQ : ¬ LetsOut Q) :
    ∀ (fuel : Nat) (listed : Array Bool) (a : Act) (w : World), wpAny P md ops Q fuel listed a w → wpAnyIn (Fence.wide.inRound l) n P md ops Q fuel listed a w
  | 0, _, _, _, h => h
  | fuel + 1, listed, a, w, h => by
    refine ⟨h.1, fun i hi => ?_⟩
    have h1 := wpOp_mono (fun a' w' => wpAnyIn_of_wpAny l n hd hQ fuel (listed.setIfInBounds i true) a' w') (h.2 i hi)
    unfold wpOp at h1
    unfold wpOpIn
    split
    · rename_i ho; simpa [ho] using h1
    · rename_i o ho
      simp only [ho] at h1
      split
      · rename_i hw
        rw [if_pos hw] at h1
        rcases h1 with h1 | h1
        · exact oper_wpIn_of_wp l n (hd i o ho) h1
        · exact absurd h1.2 hQ
      · rename_i hw
        rw [if_neg hw] at h1
        exact ⟨fun _ _ => trivial, h1⟩

def noDefer (ls : List Oper) : Bool := ls.all fun o => match o.op with | .defer _ => false | _ => true

theorem wpIn_round_still_tail {P : Program} {l m id : Nat} {Q : Exit → Act → World → Prop} {a : Act} {w : World} {ls : List Oper} (n : Nat) (hm : P.follows .mixedOrders = true) (hd : noDefer ls = true)
    (hB : Region.lexTailB .any ls.toArray n = true)
    (h : wpStill P ls.toArray w.drew (fun a' => wpList P ls.toArray (fun e a w => e ≠ .outgrown ∧ Q e a w) (ls.drop n) a' w.drew) (ls.take n) a) :
    (Code.region id ls.toArray true).wpIn (Fence.wide.inRound l) m P Q a w := by
  simp only [Region.lexTailB, Bool.and_eq_true, decide_eq_true_eq] at hB
  obtain ⟨⟨⟨⟨hsel, hn⟩, hs⟩, hc⟩, hlex⟩ := hB
  have hn' : n < ls.length := by simpa using hn
  have e1 : (ls.take n).length = n := by simp; omega
  have e2 : (ls.drop n).length = ls.toArray.size - n := by simp
  have start : HeadInv .any ls.toArray n (Array.replicate ls.toArray.size false) :=
    ⟨by simp, fun j oj _ hl => (by rw [getD_replicate_false] at hl; cases hl), fun t _ ht => getD_in (by simpa using ht) (getD_replicate_false _ _)⟩
  have H := wpAnyL_lex (md := .any) (g := ls.toArray.size - n) hsel hs hc hn (ls.take n) 0 _ a (fun j hj => by
    rw [e1] at hj
    simp [hj]) (by simpa using e1) start (by rw [e1]; exact hlex) h
  have A := wpAny_of_head (Q' := fun e a w => e ≠ .outgrown ∧ Q e a w) (g := ls.toArray.size - n) (fun listed a' hL => by
    have := wpAny_of_seq (md := .any) (Q' := fun e a w => e ≠ .outgrown ∧ Q e a w) (ls.drop n) n listed a' w.drew (fun j => by simp [List.getElem?_drop]) (by rw [e2]; exact hL.1) hL.2
    rwa [e2] at this) _ _ _ H
  rw [e1, show n + (ls.toArray.size - n) = ls.toArray.size by omega] at A
  have hdd : ∀ (i : Nat) (o : Oper), ls.toArray[i]? = some o → ∀ c, o.op ≠ .defer c := by
    intro i o ho c hc
    unfold noDefer at hd
    rw [List.all_eq_true] at hd
    have := hd o (by simp only [List.getElem?_toArray] at ho; exact List.mem_of_getElem? ho)
    rw [hc] at this
    cases this
  exact Go.wpIn_mono (wpIn_region_any hm (wpAnyIn_of_wpAny l m hdd (fun ⟨_, _, h⟩ => h.1 rfl) _ _ _ _ A)) fun _ _ _ h => h.2

end Go.Proofs.Ytdhkhdfenalagaa
