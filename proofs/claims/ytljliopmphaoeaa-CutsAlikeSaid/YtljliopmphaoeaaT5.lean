/- lift of package table. -/
import Derived.Test.YtljliopmphaoeaaT4
namespace Go.Proofs.Ytljliopmphaoeaa
open Go Go.RowKit Go.Proofs.Ytljliopmphaoeaa.Q

theorem lifted_rows (rs : List Rul) (p : Nat) (hp : p < rs.length) (cur : List Value) (hc : cur.take (rs.length * 12) = rulsC rs) :
    (splice cur (p * 12) (rulsC (rs.drop (p + 1)))).take ((rs.length - 1) * 12) = rulsC (rs.take p ++ rs.drop (p + 1)) := by
  have hl : (rulsC (rs.take p)).length = p * 12 := by rw [rulsC_len, List.length_take, Nat.min_eq_left (by omega)]
  have hd : (rulsC (rs.drop (p + 1))).length = (rs.length - (p + 1)) * 12 := by rw [rulsC_len, List.length_drop]
  have hL : rs.length * 12 ≤ cur.length := by
    have := congrArg List.length hc
    rw [List.length_take, rulsC_len] at this
    omega
  have e5 : cur.take (p * 12) = rulsC (rs.take p) := by
    have e6 : cur.take (p * 12) = (cur.take (rs.length * 12)).take (p * 12) := by rw [List.take_take, Nat.min_eq_left (by omega)]
    have e7 : rulsC rs = rulsC (rs.take p) ++ rulsC (rs.drop p) := by rw [← rulsC_app, List.take_append_drop]
    rw [e6, hc, e7]
    exact List.take_left' hl
  unfold splice
  rw [e5, ← List.append_assoc, rulsC_app]
  exact List.take_left' (by rw [List.length_append]; omega)
theorem OwnR.open {W : World} {base : Nat} {v : Value} {rs : List Rul} (h : OwnR W base v rs) (hne : 0 < rs.length) : ∃ g cap cur, v = .slice (some ⟨g, 0, none⟩) rs.length cap ∧ base ≤ g ∧ W.heap[g]? = some (.cells (List.toArray cur) 60 (0, 0)) ∧ rs.length ≤ cap ∧ cap ≤ maxLen ∧ cur.length = cap * 12 ∧ cur.take (rs.length * 12) = rulsC rs := by
  rcases h.2 with ⟨_, h2⟩ | ⟨g, cap, cur, h1, h2, h3, h4, h5, h6, h7⟩
  · omega
  · exact ⟨g, cap, cur.toList, h1, h2, by simpa using h3, h4, h5, by simpa using h6, h7⟩
theorem ownR_of {W : World} {base g cap : Nat} {rs : List Rul} {cur : List Value} {n : Nat} (hn : rs.length = n) (hb : base ≤ g) (hr : W.heap[g]? = some (.cells cur.toArray 60 (0, 0))) (hle : n ≤ cap) (hmx : cap ≤ maxLen) (hlen : cur.length = cap * 12) (hc : cur.take (n * 12) = rulsC rs) : OwnR W base (.slice (some ⟨g, 0, none⟩) n cap) rs := by
  subst hn
  exact ⟨rulsC_len rs, .inr ⟨g, cap, _, rfl, hb, hr, hle, hmx, by simpa using hlen, by simpa using hc⟩⟩
set_option maxHeartbeats 2000000 in
set_option maxRecDepth 100000 in
theorem tabLift_any (B : Nat) (c : Cfg) (rs : List Rul) (base : Nat) (v : Value) (w : World) (p : Nat) (hp : p < rs.length) (hl : rs.length ≤ 100001) (hT : TabAt w B c v) (hO : OwnR w base v rs) (hB : B < base) :
    Calls Try.prog 58 #[.pointer (some ⟨B, 0, none⟩), .int .i64 p] w fun e w' => e = .returned (.tuple #[]) ∧ ∃ v', TabAt w' B c v' ∧ OwnR w' base v' (rs.take p ++ rs.drop (p + 1)) ∧ v'.ownBlock = v.ownBlock ∧ Only w w' (fun k => k = B ∨ v.ownBlock = some k) := by
  obtain ⟨g, cap, cur, rfl, hbg, hrow, hle, hmx, hlen, hck⟩ := hO.open (by omega)
  have c7 := hT.cell (i := 7) rfl
  have cl := hT.lt
  have cf := hT.frozen
  have hgB : g ≠ B := by omega
  have HT := Sd.mk hT
  have HR := Sd.mk (And.intro hrow (And.intro hlen (And.intro hck hmx)))
  clear hT hO hrow hlen hck hmx
  go_enter Try.func58, Try.ntmps58
  go_wp2_with fail
  refine wp_region_still_tail 13 (by kernel_rfl) (by kernel_rfl) ?_
  change wpStill _ _ w.drew _ _ _
  simp only [List.take_succ_cons, List.take_zero, List.drop_succ_cons, List.drop_zero]
  repeat still_step
  refine wpStill_step (fun K hK => ?_)
  go_simp
  rw [if_pos (show p ≤ rs.length by omega), if_neg (show ¬ cap = p by omega)]
  refine ⟨rfl, hK _ ?_⟩
  clear hK K
  repeat still_step
  rw [show IntKind.i64.wrap ((p : Int) + 1) = ((p + 1 : Nat) : Int) from by rw [IntKind.wrap_i64]; omega]
  refine wpStill_step (fun K hK => ?_)
  go_simp
  rw [if_pos (show (0 : Int) ≤ (p : Int) + 1 ∧ (p : Int) + 1 ≤ (rs.length : Int) by omega)]
  refine ⟨rfl, hK _ ?_⟩
  clear hK K
  refine wpStill_nil ?_
  change wpList _ _ _ _ _ w.drew
  refine wpList_copy_wide rfl (.tmp 9) (.tmp 16) 46 46 rfl 12 60 Try.underlying46 sizeRule (some ⟨g, p * 12, none⟩) (if cap = p + 1 then some ⟨g, 0, none⟩ else some ⟨g, (p + 1) * 12, none⟩) (rs.length - p) (cap - p) (rs.length - (p + 1)) (cap - (p + 1)) rfl rfl g (p * 12) cur 60 ?c1 (rulsC (rs.drop (p + 1))) ?c2 ?c3 ?c4 (ruls_one _) ?c5
  case c1 => exact HR.out.1
  case c2 =>
    rw [rulsC_len, List.length_drop, show Nat.min (rs.length - (p + 1)) (rs.length - p) = rs.length - (p + 1) from Nat.min_eq_left (by omega)]
  case c3 =>
    intro hmn
    rw [show Nat.min (rs.length - (p + 1)) (rs.length - p) = rs.length - (p + 1) from Nat.min_eq_left (by omega)] at hmn
    refine ⟨rfl, _, if_neg (by omega), fun j v hj => ?_⟩
    have h1 := rulsC_drop rs (p + 1) (by omega) j v hj
    have h2 : (cur.take (rs.length * 12))[(p + 1) * 12 + j]? = some v := by
      rw [HR.out.2.2.1]; exact h1
    have h3 : cur[(p + 1) * 12 + j]? = some v := by
      rw [List.getElem?_take] at h2
      split at h2
      · exact h2
      · cases h2
    have e : (⟨g, (p + 1) * 12, none⟩ : Addr).add j = ⟨g, (p + 1) * 12 + j, none⟩ := by unfold Addr.add; split <;> simp_all
    rw [e]
    have := Blk.at (W := w.drew) (B := g) (cs := cur.toArray) (t := 60) HR.out.1 ((p + 1) * 12 + j)
    rw [this]
    simpa using h3
  case c4 =>
    have := HR.out.2.1
    rw [rulsC_len, List.length_drop]
    omega
  case c5 =>
    intro w1 hg1 hw1
    generalize (if cap = p + 1 then some (⟨g, 0, none⟩ : Addr) else some ⟨g, (p + 1) * 12, none⟩) = dA
    have hlen : (splice cur (p * 12) (rulsC (rs.drop (p + 1)))).length = cap * 12 := (splice_len _ _ _ (by
      have := HR.out.2.1
      rw [rulsC_len, List.length_drop]
      omega)).trans HR.out.2.1
    have HC := Sd.mk (lifted_rows rs p hp cur HR.out.2.2.1)
    have hT1 := HT.out.only (copied hw1) (fun e => hgB e.symm)
    have HT1 := Sd.mk hT1
    have HO1 := Sd.mk (copied hw1)
    have HG1 := Sd.mk (And.intro hg1 hlen)
    clear c7 cf cl hw1 hg1 hlen
    have c7 := hT1.cell (i := 7) rfl
    have cf := hT1.frozen
    have cl := hT1.lt
    clear hT1
    go_wp2_with fail
    refine wp_region_still_tail 14 (by kernel_rfl) (by kernel_rfl) ?_
    change wpStill _ _ w1.drew _ _ _
    simp only [List.take_succ_cons, List.take_zero, List.drop_succ_cons, List.drop_zero]
    repeat still_step
    rw [show IntKind.i64.wrap ((rs.length : Int) - 1) = ((rs.length - 1 : Nat) : Int) from by rw [IntKind.wrap_i64]; omega]
    refine wpStill_step (fun K hK => ?_)
    go_simp
    rw [if_pos (show rs.length ≤ cap + 1 by omega)]
    refine ⟨rfl, hK _ ?_⟩
    clear hK K
    repeat still_step
    refine wpStill_nil ?_
    change wpList _ _ _ _ _ w1.drew
    have HT2 := Sd.mk ((HT1.out.drew).set 7 (.slice (some ⟨g, 0, none⟩) (rs.length - 1) cap))
    have HR2 := Sd.mk (Blk.other (W := w1.drew) (B := g) (a := ⟨B, 7, none⟩) HG1.out.1 (.slice (some ⟨g, 0, none⟩) (rs.length - 1) cap) hgB)
    have HO2 : Sd (Only w (w1.drew.setCell ⟨B, 7, none⟩ (.slice (some ⟨g, 0, none⟩) (rs.length - 1) cap)) (fun k => k = B ∨ some g = some k)) := ⟨((HO1.out.mono (T := fun k => k = B ∨ some g = some k) (fun k _ h => .inr (by rw [h]))).drew).setCell _ _ (fun _ => .inl rfl)⟩
    go_wp2
    go_end0
    exact ⟨rfl, _, HT2.out, ownR_of (by simp; omega) hbg HR2.out (by omega) HR.out.2.2.2 HG1.out.2 HC.out, rfl, HO2.out⟩
end Go.Proofs.Ytljliopmphaoeaa
