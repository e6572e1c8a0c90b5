/- The reference's list: Find. The reference's list: Insert and Delete. The reference's list: Delete, Copy, Set. -/
import Derived.Test.YtljliopmphaoeaaT7
import Derived.Laws.AppendOwnNone
namespace Go.Proofs.Ytljliopmphaoeaa
open Go Go.RowKit Go.Proofs.Ytljliopmphaoeaa.Q
set_option maxHeartbeats 1000000 in
set_option maxRecDepth 100000 in
theorem refFind_any (rs : List Rul) (A : Option Addr) (cap : Nat) (id : Int) (hl : rs.length ≤ 1000000000000) (w : World) (hR : RulsAt w A rs) :
    Calls Try.prog 60 #[.slice A rs.length cap, .int .i64 id] w fun e w' => e = .returned (.int .i64 (findI rs id)) ∧ w = w' := by
  have HR := Sd.mk hR
  clear hR
  go_enter Try.func60, Try.ntmps60
  go_wp2
  go_loop [5] (fun iv => ∃ k : Nat, k ≤ rs.length ∧ iv = .int .i64 k ∧ Sd (∀ j (h : j < rs.length), j < k → rs[j].id ≠ id)) (fun iv => rs.length - (intOf iv).toNat)
  case atStart => exact ⟨0, by omega, rfl, ⟨fun j h hj => by omega⟩⟩
  case round =>
    obtain ⟨k, hk, rfl, HI⟩ := hrel
    by_cases hlt : k < rs.length
    · obtain ⟨g, o, rfl, hg, c0, _⟩ := HR.out.cells k hlt
      by_cases he : rs[k].id = id
      · have HQ := Sd.mk (findI_at rs id k hlt he HI.out)
        have ht : (rs[k].id == id) = true := by simp [he]
        clear he
        go_wp2
        go_ret
        exact ⟨ret_int HQ.out.symm, rfl⟩
      · have ht : (rs[k].id == id) = false := by simp [he]
        have HE := Sd.mk he
        clear he
        go_wp2
        go_round
        case rel => exact ⟨k + 1, by omega, by go_num, ⟨fun j h hj => by
          by_cases e : j = k
          · subst e; exact HE.out
          · exact HI.out j h (by omega)⟩⟩
        case measure => simp [intOf]; omega
    · have HQ : Sd (findI rs id = -1) := ⟨findI_none rs id (fun j h => HI.out j h (by omega))⟩
      go_wp2
      go_ret
      exact ⟨ret_int HQ.out.symm, rfl⟩
theorem insI_parts {c : Cfg} {rs : List Rul} {p : Int} {r : Rul} (h : insI c rs p r = 0) : r.ck.1 = 0 ∧ findI rs r.id < 0 ∧ (rs.length : Int) < c.max := by
  unfold insI at h
  rcases takesI_cases rs r with ⟨h1, h2⟩ | ⟨h1, h2, h3⟩ | ⟨h1, h2, h3⟩
  · rw [if_pos (by rw [h2]; exact h1)] at h; rw [h2] at h; exact absurd h h1
  · rw [if_pos (by rw [h3]; decide)] at h; rw [h3] at h; cases h
  · rw [if_neg (by rw [h3]; decide)] at h
    by_cases hb : btw p 0 rs.length = false
    · rw [if_pos hb] at h; cases h
    · rw [if_neg hb] at h
      by_cases hm : c.max ≤ rs.length
      · rw [if_pos hm] at h; cases h
      · exact ⟨h1, h2, by omega⟩
end Go.Proofs.Ytljliopmphaoeaa

namespace Go.Proofs.Ytljliopmphaoeaa
open Go Go.RowKit Go.Proofs.Ytljliopmphaoeaa.Q
theorem rules_add {rs : List Rul} {W : World} {A : Option Addr} (h : RulsAt W A rs) (hne : 0 < rs.length) : ∃ a, A = some a := by
  obtain ⟨a, h1, _⟩ := h.flat hne
  exact ⟨a, h1⟩
set_option maxRecDepth 100000 in
/-- append of a list of rules, be it nil -/
theorem append_ruls {ops : Array Oper} {rest : List Oper} {o : Oper} {a : Act} {Q : Exit → Act → World → Prop} {w : World} (hgd : o.guard = none) (s x : Operand)
    (ho : o.op = .call { callee := .builtin .append, args := #[s, x], argTypes := #[46, 46] })
    (base : Nat) (v : Value) (xs : List Rul) (hs : a.eval s = v) (hown : OwnR w base v xs) (A : Option Addr) (m cap : Nat) (ys : List Rul) (hm : ys.length = m) (hx : a.eval x = .slice A m cap) (hA : A = none → cap = 0)
    (hR : RulsAt w A ys) (hn : xs.length + ys.length ≤ 200000) (hbase : base ≤ w.heap.size)
    (h : ∀ v' w', OwnR w' base v' (xs ++ ys) → Below base w w' → wpList Try.prog ops Q rest (a.put o.dst v') w') : wpList Try.prog ops Q (o :: rest) a w := by
  obtain ⟨i0, hi, hz0, hz1, hz2⟩ := info_parts infoRule
  subst hm
  have hl : OwnR w base v (xs ++ []) := by rw [List.append_nil]; exact hown
  cases A with
  | none =>
    have h0 : ys = [] := by
      cases ys with
      | nil => rfl
      | cons y t =>
        obtain ⟨a, ha⟩ := rules_add hR (by simp)
        cases ha
    subst h0
    rw [hA rfl] at hx
    exact wpList_append_own_none hgd s x _ ho base 60 i0 12 Try.underlying46 hi v xs.length (rulsC xs) hs hown hx (h v w hl (Below.refl _ _))
  | some ad =>
    refine wpList_append_own w hgd s x _ ho base 60 i0 _ 12 64 Try.underlying46 hi hz0 hz1 hz2 rfl (by decide) v xs.length (rulsC xs) hs hown ad ys.length cap (rulsC ys) hx (rulsC_len ys) (fun j u hu => ?_) (ruls_one ys) (by unfold maxLen; omega) (by omega) hbase (fun v' w' h1 h2 _ => h v' w' ?_ ?_)
    · by_cases hy : 0 < ys.length
      · obtain ⟨a', ha, hc⟩ := hR.flat hy
        injection ha with ha
        subst ha
        exact hc j u hu
      · have := (List.getElem?_eq_some_iff.1 hu).1
        rw [rulsC_len] at this
        omega
    · unfold OwnR
      rw [List.length_append, rulsC_app]
      exact h1
    · exact below_grow h2 hbase (fun k hk => (hown.lt k hk).1)
theorem RulsAt.drop {W : World} {A : Option Addr} {cap : Nat} {rs : List Rul} (h : RulsAt W A rs) (p : Nat) (hc : rs.length ≤ cap) : RulsAt W (if cap = p then A else A.map (fun x => x.add (p * 12))) (rs.drop p) := by
  by_cases hp : cap = p
  · rw [if_pos hp, List.drop_of_length_le (by omega)]
    exact ⟨fun k hk => absurd hk (by simp)⟩
  · rw [if_neg hp]
    exact ⟨fun k hk => by
      have hk' : p + k < rs.length := by rw [List.length_drop] at hk; omega
      obtain ⟨g, o, h1, h2, h3⟩ := h.at' (p + k) hk'
      subst h1
      refine ⟨g, o + p * 12, by simp [Addr.add], h2, fun i u hu => ?_⟩
      rw [List.getElem_drop] at hu
      rw [show o + p * 12 + k * 12 + i = o + (p + k) * 12 + i by omega]
      exact h3 i u hu⟩
theorem drop_none {A : Option Addr} {cap p : Nat} (hA : A = none → cap = 0) (h : (if cap = p then A else A.map (fun x => x.add (p * 12))) = none) : cap - p = 0 := by
  split at h
  · omega
  · have : A = none := by simpa using h
    have := hA this
    omega
theorem ruls_one_at {M : World} {B : Nat} {r : Rul} (h : Blk M B #[.int .i64 r.id, .int .u32 r.src.a, .int .i64 r.src.n, .int .u32 r.dst.a, .int .i64 r.dst.n, .int .u16 r.sp.lo, .int .u16 r.sp.hi, .int .u16 r.dp.lo, .int .u16 r.dp.hi, .int .u8 r.pr.v, .int .u8 r.pr.c, .int .i64 r.act] 60) : RulsAt M (some ⟨B, 0, none⟩) [r] :=
  ⟨fun k hk => by
    have : k = 0 := by simpa using hk
    subst this
    exact ⟨B, 0, rfl, h.lt, fun i u hu => by rw [h.at]; simpa using hu⟩⟩
set_option maxHeartbeats 2000000 in
set_option maxRecDepth 100000 in
theorem refInsert_no (c : Cfg) (rs : List Rul) (A : Option Addr) (cap : Nat) (p : Int) (r : Rul) (w : World) (hw : r.Wf) (hl : rs.length ≤ 100000) (hR : RulsAt w A rs) (hn : insI c rs p r ≠ 0) :
    Calls Try.prog 35 #[.slice A rs.length cap, .int .i64 c.max, .int .i64 p, .agg #[.int .i64 r.id, .int .u32 r.src.a, .int .i64 r.src.n, .int .u32 r.dst.a, .int .i64 r.dst.n, .int .u16 r.sp.lo, .int .u16 r.sp.hi, .int .u16 r.dp.lo, .int .u16 r.dp.hi, .int .u8 r.pr.v, .int .u8 r.pr.c, .int .i64 r.act]] w fun e w' => e = .returned (.tuple #[.slice A rs.length cap, .int .i64 (insI c rs p r)]) ∧ Below w.heap.size w w' := by
  obtain ⟨W0, hW0⟩ : ∃ W0, w.alloc (.cells #[.int .i64 r.id, .int .u32 r.src.a, .int .i64 r.src.n, .int .u32 r.dst.a, .int .i64 r.dst.n, .int .u16 r.sp.lo, .int .u16 r.sp.hi, .int .u16 r.dp.lo, .int .u16 r.dp.hi, .int .u8 r.pr.v, .int .u8 r.pr.c, .int .i64 r.act] 60) = W0 := ⟨_, rfl⟩
  have hbW : Below w.heap.size w W0 := by rw [← hW0]; exact below_alloc (Below.refl _ _) _
  have hkW : Blk W0 w.heap.size #[.int .i64 r.id, .int .u32 r.src.a, .int .i64 r.src.n, .int .u32 r.dst.a, .int .i64 r.dst.n, .int .u16 r.sp.lo, .int .u16 r.sp.hi, .int .u16 r.dp.lo, .int .u16 r.dp.hi, .int .u8 r.pr.v, .int .u8 r.pr.c, .int .i64 r.act] 60 := by rw [← hW0]; exact Blk.new _ _ _
  obtain ⟨d0, d1, d2, d3, d4, d5, d6, d7, d8, d9, d10, d11⟩ := show W0.cell? ⟨w.heap.size, 0, none⟩ = some (.int .i64 r.id) ∧ W0.cell? ⟨w.heap.size, 1, none⟩ = some (.int .u32 r.src.a) ∧ W0.cell? ⟨w.heap.size, 2, none⟩ = some (.int .i64 r.src.n) ∧ W0.cell? ⟨w.heap.size, 3, none⟩ = some (.int .u32 r.dst.a) ∧ W0.cell? ⟨w.heap.size, 4, none⟩ = some (.int .i64 r.dst.n) ∧ W0.cell? ⟨w.heap.size, 5, none⟩ = some (.int .u16 r.sp.lo) ∧ W0.cell? ⟨w.heap.size, 6, none⟩ = some (.int .u16 r.sp.hi) ∧ W0.cell? ⟨w.heap.size, 7, none⟩ = some (.int .u16 r.dp.lo) ∧ W0.cell? ⟨w.heap.size, 8, none⟩ = some (.int .u16 r.dp.hi) ∧ W0.cell? ⟨w.heap.size, 9, none⟩ = some (.int .u8 r.pr.v) ∧ W0.cell? ⟨w.heap.size, 10, none⟩ = some (.int .u8 r.pr.c) ∧ W0.cell? ⟨w.heap.size, 11, none⟩ = some (.int .i64 r.act) from ⟨hkW.cell (i := 0) rfl, hkW.cell (i := 1) rfl, hkW.cell (i := 2) rfl, hkW.cell (i := 3) rfl, hkW.cell (i := 4) rfl, hkW.cell (i := 5) rfl, hkW.cell (i := 6) rfl, hkW.cell (i := 7) rfl, hkW.cell (i := 8) rfl, hkW.cell (i := 9) rfl, hkW.cell (i := 10) rfl, hkW.cell (i := 11) rfl⟩
  have HK := Sd.mk (fun W => rRuleCheck_any r hw W)
  have HR := Sd.mk hR
  have HB := Sd.mk hbW
  have HKW := Sd.mk hkW
  have HN := Sd.mk hn
  have HW := Sd.mk hW0
  clear hbW hkW hR hn hW0
  go_enter Try.func35, Try.ntmps35
  go_upto_region 1 with fail
  rw [HW.out]
  go_wp2_with fail
  refine (HK.out _).mono ?_
  rintro e w1 ⟨rfl, hb1⟩
  have hk1 := HKW.out.below hb1 HKW.out.lt
  have HB1 := Sd.mk (beyond HB.out hb1)
  have e0 := hk1.cell (i := 0) rfl
  clear d0 d1 d2 d3 d4 d5 d6 d7 d8 d9 d10 d11 hb1 hk1
  by_cases h1 : r.ck.1 ≠ 0
  · have HQ : Sd (insI c rs p r = r.ck.1) := ⟨by unfold insI takesI; simp [h1]⟩
    have ht : (r.ck.1 != 0) = true := by simp [h1]
    clear h1
    go_wp2
    refine bodyPost_ret (v := .tuple #[.slice A rs.length cap, .int .i64 r.ck.1]) (by simp [results, Try.results35, go_sem, *]) rfl ⟨by rw [HQ.out], HB1.out⟩
  · have ht : (r.ck.1 != 0) = false := by simp at h1; simp [h1]
    have HF := Sd.mk (refFind_any rs A cap r.id (by omega) w1 (HR.out.below HB1.out))
    have h1 : Sd (r.ck.1 = 0) := ⟨by omega⟩
    go_wp2_with fail
    refine HF.out.mono ?_
    rintro e w2 ⟨rfl, rfl⟩
    by_cases h2 : 0 ≤ findI rs r.id
    · have HQ : Sd (insI c rs p r = 111) := ⟨by unfold insI takesI; simp [h1.out, h2]⟩
      go_wp2
      refine bodyPost_ret (v := .tuple #[.slice A rs.length cap, .int .i64 111]) (by simp [results, Try.results35, go_sem, *]) rfl ⟨by rw [HQ.out], HB1.out⟩
    · have hT : Sd (takesI rs r = 0) := ⟨by unfold takesI; simp [h1.out, h2]⟩
      by_cases h3 : p < 0
      · have HQ : Sd (insI c rs p r = 112) := ⟨by unfold insI btw; simp [hT.out]; omega⟩
        go_wp2
        refine bodyPost_ret (v := .tuple #[.slice A rs.length cap, .int .i64 112]) (by simp [results, Try.results35, go_sem, *]) rfl ⟨by rw [HQ.out], HB1.out⟩
      · by_cases h4 : (rs.length : Int) < p
        · have HQ : Sd (insI c rs p r = 112) := ⟨by unfold insI btw; simp [hT.out]; omega⟩
          go_wp2
          refine bodyPost_ret (v := .tuple #[.slice A rs.length cap, .int .i64 112]) (by simp [results, Try.results35, go_sem, *]) rfl ⟨by rw [HQ.out], HB1.out⟩
        · have h5 : c.max ≤ rs.length := by
            have := HN.out
            unfold insI btw at this
            simp [hT.out] at this
            omega
          have HQ : Sd (insI c rs p r = 113) := ⟨by unfold insI btw; simp [hT.out]; omega⟩
          go_wp2
          refine bodyPost_ret (v := .tuple #[.slice A rs.length cap, .int .i64 113]) (by simp [results, Try.results35, go_sem, *]) rfl ⟨by rw [HQ.out], HB1.out⟩
set_option maxHeartbeats 2000000 in
set_option maxRecDepth 100000 in
theorem refInsert_ok (c : Cfg) (rs : List Rul) (A : Option Addr) (cap : Nat) (p : Nat) (r : Rul) (w : World) (hw : r.Wf) (hl : rs.length ≤ 1000) (hcap : rs.length ≤ cap) (hA : A = none → cap = 0) (hR : RulsAt w A rs) (hp : p ≤ rs.length) (hn : insI c rs p r = 0) :
    Calls Try.prog 35 #[.slice A rs.length cap, .int .i64 c.max, .int .i64 p, .agg #[.int .i64 r.id, .int .u32 r.src.a, .int .i64 r.src.n, .int .u32 r.dst.a, .int .i64 r.dst.n, .int .u16 r.sp.lo, .int .u16 r.sp.hi, .int .u16 r.dp.lo, .int .u16 r.dp.hi, .int .u8 r.pr.v, .int .u8 r.pr.c, .int .i64 r.act]] w fun e w' => ∃ v', e = .returned (.tuple #[v', .int .i64 0]) ∧ OwnR w' w.heap.size v' (rs.take p ++ r :: rs.drop p) ∧ Below w.heap.size w w' := by
  obtain ⟨W0, hW0⟩ : ∃ W0, w.alloc (.cells #[.int .i64 r.id, .int .u32 r.src.a, .int .i64 r.src.n, .int .u32 r.dst.a, .int .i64 r.dst.n, .int .u16 r.sp.lo, .int .u16 r.sp.hi, .int .u16 r.dp.lo, .int .u16 r.dp.hi, .int .u8 r.pr.v, .int .u8 r.pr.c, .int .i64 r.act] 60) = W0 := ⟨_, rfl⟩
  have hbW : Below w.heap.size w W0 := by rw [← hW0]; exact below_alloc (Below.refl _ _) _
  have hkW : Blk W0 w.heap.size #[.int .i64 r.id, .int .u32 r.src.a, .int .i64 r.src.n, .int .u32 r.dst.a, .int .i64 r.dst.n, .int .u16 r.sp.lo, .int .u16 r.sp.hi, .int .u16 r.dp.lo, .int .u16 r.dp.hi, .int .u8 r.pr.v, .int .u8 r.pr.c, .int .i64 r.act] 60 := by rw [← hW0]; exact Blk.new _ _ _
  obtain ⟨d0, d1, d2, d3, d4, d5, d6, d7, d8, d9, d10, d11⟩ := show W0.cell? ⟨w.heap.size, 0, none⟩ = some (.int .i64 r.id) ∧ W0.cell? ⟨w.heap.size, 1, none⟩ = some (.int .u32 r.src.a) ∧ W0.cell? ⟨w.heap.size, 2, none⟩ = some (.int .i64 r.src.n) ∧ W0.cell? ⟨w.heap.size, 3, none⟩ = some (.int .u32 r.dst.a) ∧ W0.cell? ⟨w.heap.size, 4, none⟩ = some (.int .i64 r.dst.n) ∧ W0.cell? ⟨w.heap.size, 5, none⟩ = some (.int .u16 r.sp.lo) ∧ W0.cell? ⟨w.heap.size, 6, none⟩ = some (.int .u16 r.sp.hi) ∧ W0.cell? ⟨w.heap.size, 7, none⟩ = some (.int .u16 r.dp.lo) ∧ W0.cell? ⟨w.heap.size, 8, none⟩ = some (.int .u16 r.dp.hi) ∧ W0.cell? ⟨w.heap.size, 9, none⟩ = some (.int .u8 r.pr.v) ∧ W0.cell? ⟨w.heap.size, 10, none⟩ = some (.int .u8 r.pr.c) ∧ W0.cell? ⟨w.heap.size, 11, none⟩ = some (.int .i64 r.act) from ⟨hkW.cell (i := 0) rfl, hkW.cell (i := 1) rfl, hkW.cell (i := 2) rfl, hkW.cell (i := 3) rfl, hkW.cell (i := 4) rfl, hkW.cell (i := 5) rfl, hkW.cell (i := 6) rfl, hkW.cell (i := 7) rfl, hkW.cell (i := 8) rfl, hkW.cell (i := 9) rfl, hkW.cell (i := 10) rfl, hkW.cell (i := 11) rfl⟩
  obtain ⟨q1, q2, q4⟩ := insI_parts hn
  have ht : (r.ck.1 != 0) = false := by simp [q1]
  have HK := Sd.mk (fun W => rRuleCheck_any r hw W)
  have HR := Sd.mk hR
  have HB := Sd.mk hbW
  have HKW := Sd.mk hkW
  have HW := Sd.mk hW0
  have HP := Sd.mk hp
  have HC := Sd.mk hcap
  clear hbW hkW hR hn hW0 q1
  go_enter Try.func35, Try.ntmps35
  go_upto_region 1 with fail
  rw [HW.out]
  go_wp2_with fail
  refine (HK.out _).mono ?_
  rintro e w1 ⟨rfl, hb1⟩
  have hk1 := HKW.out.below hb1 HKW.out.lt
  have HB1 := Sd.mk (beyond HB.out hb1)
  have HK1 := Sd.mk hk1
  have e0 := hk1.cell (i := 0) rfl
  have HF := Sd.mk (refFind_any rs A cap r.id (by omega) w1 (HR.out.below HB1.out))
  clear d0 d1 d2 d3 d4 d5 d6 d7 d8 d9 d10 d11 hb1 hk1
  go_wp2_with fail
  refine HF.out.mono ?_
  rintro e w2 ⟨rfl, rfl⟩
  go_upto_region 11 with fail
  have hA' := Sd.mk hA
  clear hA
  go_wp2_with (at_builtin; refine append_ruls rfl _ _ rfl w1.heap.size (.slice none 0 0) [] rfl (World.ownsRow_nil _ _ _ _) _ _ _ (rs.take p) ?h1 rfl ?h2 ?h3 ?h4 (Nat.le_refl _) ?h5)
  case h1 => rw [List.length_take]; omega
  case h2 => exact hA'.out
  case h3 => exact (HR.out.below HB1.out).take p
  case h4 => simp; omega
  case h5 =>
    intro v1 w2 ho1 hb1
    have hk2 := HK1.out.below hb1 HK1.out.lt
    have HO1 := Sd.mk ho1
    have HB2 := Sd.mk hb1
    clear ho1 hb1 e0
    obtain ⟨d0, d1, d2, d3, d4, d5, d6, d7, d8, d9, d10, d11⟩ := show w2.cell? ⟨w.heap.size, 0, none⟩ = some (.int .i64 r.id) ∧ w2.cell? ⟨w.heap.size, 1, none⟩ = some (.int .u32 r.src.a) ∧ w2.cell? ⟨w.heap.size, 2, none⟩ = some (.int .i64 r.src.n) ∧ w2.cell? ⟨w.heap.size, 3, none⟩ = some (.int .u32 r.dst.a) ∧ w2.cell? ⟨w.heap.size, 4, none⟩ = some (.int .i64 r.dst.n) ∧ w2.cell? ⟨w.heap.size, 5, none⟩ = some (.int .u16 r.sp.lo) ∧ w2.cell? ⟨w.heap.size, 6, none⟩ = some (.int .u16 r.sp.hi) ∧ w2.cell? ⟨w.heap.size, 7, none⟩ = some (.int .u16 r.dp.lo) ∧ w2.cell? ⟨w.heap.size, 8, none⟩ = some (.int .u16 r.dp.hi) ∧ w2.cell? ⟨w.heap.size, 9, none⟩ = some (.int .u8 r.pr.v) ∧ w2.cell? ⟨w.heap.size, 10, none⟩ = some (.int .u8 r.pr.c) ∧ w2.cell? ⟨w.heap.size, 11, none⟩ = some (.int .i64 r.act) from ⟨hk2.cell (i := 0) rfl, hk2.cell (i := 1) rfl, hk2.cell (i := 2) rfl, hk2.cell (i := 3) rfl, hk2.cell (i := 4) rfl, hk2.cell (i := 5) rfl, hk2.cell (i := 6) rfl, hk2.cell (i := 7) rfl, hk2.cell (i := 8) rfl, hk2.cell (i := 9) rfl, hk2.cell (i := 10) rfl, hk2.cell (i := 11) rfl⟩
    clear hk2
    go_upto_region 12 with fail
    go_wp2_with (at_builtin; refine append_ruls rfl _ _ rfl w1.heap.size v1 (rs.take p) rfl (ownR_alloc HO1.out _) (some ⟨w2.heap.size, 0, none⟩) 1 1 [r] rfl rfl (by simp) (ruls_one_at (Blk.new w2 _ _)) ?h4 ?h6 ?h5)
    case h4 => simp; omega
    case h6 => have := HB2.out.size; simp; omega
    case h5 =>
      intro v2 w3 ho2 hb2
      have HO2 := Sd.mk ho2
      have HB3 := Sd.mk ((below_alloc HB2.out _).trans hb2)
      clear ho2 hb2 d0 d1 d2 d3 d4 d5 d6 d7 d8 d9 d10 d11
      go_upto_region 13 with fail
      have HFIN : Sd (∀ v3 w4, OwnR w4 w1.heap.size v3 (rs.take p ++ [r] ++ rs.drop p) → Below w1.heap.size w3 w4 → OwnR w4 w.heap.size v3 (rs.take p ++ r :: rs.drop p) ∧ Below w.heap.size w w4) := ⟨fun v3 w4 ho3 hb3 => ⟨by
          have := ownsRow_mono ho3 HB1.out.size
          simpa [OwnR] using this, beyond HB1.out (HB3.out.trans hb3)⟩⟩
      by_cases hcp : cap = p
      · subst hcp
        have hdn : rs.drop cap = [] := List.drop_of_length_le HC.out
        have HDN := Sd.mk hdn
        clear hdn
        go_wp2_with (at_builtin; refine append_ruls rfl _ _ rfl w1.heap.size v2 (rs.take cap ++ [r]) rfl HO2.out _ _ _ (rs.drop cap) ?h1 rfl ?h2 ?h3 ?h4 HB3.out.size ?h5)
        case h1 => rw [List.length_drop]; have := HC.out; omega
        case h3 => rw [HDN.out]; exact ⟨fun k hk => absurd hk (by simp)⟩
        case h4 => simp; omega
        case h5 =>
          intro v3 w4 ho3 hb3
          have HX := Sd.mk (HFIN.out v3 w4 (by simpa using ho3) hb3)
          clear ho3 hb3
          go_wp2
          refine bodyPost_ret (v := .tuple #[v3, .int .i64 0]) (by simp [results, Try.results35, go_sem, *]) rfl ⟨v3, rfl, HX.out⟩
      · have hdr := ((HR.out.below HB1.out).below HB3.out).drop p HC.out
        rw [if_neg hcp] at hdr
        have HDR := Sd.mk hdr
        have hno : A.map (fun x => x.add (p * 12)) = none → cap - p = 0 := fun h => by
          have : A = none := by simpa using h
          have := hA'.out this
          omega
        have HNO := Sd.mk hno
        clear hdr hno
        go_wp2_with (at_builtin; refine append_ruls rfl _ _ rfl w1.heap.size v2 (rs.take p ++ [r]) rfl HO2.out _ _ _ (rs.drop p) ?n1 rfl ?n2 ?n3 ?n4 HB3.out.size ?n5)
        case n1 => rw [List.length_drop]
        case n2 => exact HNO.out
        case n3 => exact HDR.out
        case n4 => simp; omega
        case n5 =>
          intro v3 w4 ho3 hb3
          have HX := Sd.mk (HFIN.out v3 w4 (by simpa using ho3) hb3)
          clear ho3 hb3
          go_wp2
          refine bodyPost_ret (v := .tuple #[v3, .int .i64 0]) (by simp [results, Try.results35, go_sem, *]) rfl ⟨v3, rfl, HX.out⟩
end Go.Proofs.Ytljliopmphaoeaa

namespace Go.Proofs.Ytljliopmphaoeaa
open Go Go.RowKit Go.Proofs.Ytljliopmphaoeaa.Q
set_option maxHeartbeats 2000000 in
set_option maxRecDepth 100000 in
theorem refDelete_no (rs : List Rul) (A : Option Addr) (cap : Nat) (id : Int) (w : World) (hl : rs.length ≤ 100000) (hR : RulsAt w A rs) (hf : findI rs id = -1) :
    Calls Try.prog 37 #[.slice A rs.length cap, .int .i64 id] w fun e w' => e = .returned (.tuple #[.slice A rs.length cap, .int .i64 114]) ∧ w = w' := by
  have K := refFind_any rs A cap id (by omega) w hR
  rw [hf] at K
  have HK := Sd.mk K
  clear K hR hf
  go_enter Try.func37, Try.ntmps37
  go_wp2_with fail
  refine HK.out.mono ?_
  rintro e w1 ⟨rfl, rfl⟩
  go_wp2
  refine bodyPost_ret (v := .tuple #[.slice A rs.length cap, .int .i64 114]) (by simp [results, Try.results37, go_sem, *]) rfl ⟨rfl, rfl⟩
set_option maxHeartbeats 2000000 in
set_option maxRecDepth 100000 in
theorem refDelete_ok (rs : List Rul) (A : Option Addr) (cap : Nat) (id : Int) (k : Nat) (w : World) (hl : rs.length ≤ 1000) (hcap : rs.length ≤ cap) (hA : A = none → cap = 0) (hR : RulsAt w A rs) (hk : k < rs.length) (hf : findI rs id = k) :
    Calls Try.prog 37 #[.slice A rs.length cap, .int .i64 id] w fun e w' => ∃ v', e = .returned (.tuple #[v', .int .i64 0]) ∧ OwnR w' w.heap.size v' (rs.take k ++ rs.drop (k + 1)) ∧ Below w.heap.size w w' := by
  have K := refFind_any rs A cap id (by omega) w hR
  rw [hf] at K
  have HK := Sd.mk K
  have HR := Sd.mk hR
  have HC := Sd.mk (And.intro hcap hA)
  clear K hR hf hA
  go_enter Try.func37, Try.ntmps37
  go_wp2_with fail
  refine HK.out.mono ?_
  rintro e w1 ⟨rfl, rfl⟩
  go_upto_region 5 with fail
  go_wp2_with (at_builtin; refine append_ruls rfl _ _ rfl w.heap.size (.slice none 0 0) [] rfl (World.ownsRow_nil _ _ _ _) _ _ _ (rs.take k) ?h1 rfl ?h2 ?h3 ?h4 (Nat.le_refl _) ?h5)
  case h1 => rw [List.length_take]; omega
  case h2 => exact HC.out.2
  case h3 => exact HR.out.take k
  case h4 => simp; omega
  case h5 =>
    intro v1 w2 ho1 hb1
    have HO1 := Sd.mk ho1
    have HB1 := Sd.mk hb1
    clear ho1 hb1
    go_upto_region 6 with fail
    have HFIN : Sd (∀ v3 w4, OwnR w4 w.heap.size v3 (rs.take k ++ rs.drop (k + 1)) → Below w.heap.size w2 w4 → OwnR w4 w.heap.size v3 (rs.take k ++ rs.drop (k + 1)) ∧ Below w.heap.size w w4) := ⟨fun v3 w4 ho3 hb3 => ⟨ho3, HB1.out.trans hb3⟩⟩
    have hkk : IntKind.i64.wrap ((k : Int) + 1) = ((k + 1 : Nat) : Int) := by rw [IntKind.wrap_i64]; omega
    by_cases hcp : cap = k + 1
    · subst hcp
      go_wp2_with (at_builtin; refine append_ruls rfl _ _ rfl w.heap.size v1 (rs.take k) rfl HO1.out _ _ _ (rs.drop (k + 1)) ?h1 rfl ?h2 ?h3 ?h4 HB1.out.size ?h5)
      case h1 => rw [List.length_drop]; omega
      case h3 => rw [List.drop_of_length_le (by omega)]; exact ⟨fun k hk => absurd hk (by simp)⟩
      case h4 => simp; omega
      case h5 =>
        intro v3 w4 ho3 hb3
        have HX := Sd.mk (HFIN.out v3 w4 ho3 hb3)
        clear ho3 hb3
        go_wp2
        refine bodyPost_ret (v := .tuple #[v3, .int .i64 0]) (by simp [results, Try.results37, go_sem, *]) rfl ⟨v3, rfl, HX.out⟩
    · have hdr := (HR.out.below HB1.out).drop (k + 1) hcap
      rw [if_neg hcp] at hdr
      have HDR := Sd.mk hdr
      have hno : A.map (fun x => x.add ((k + 1) * 12)) = none → cap - (k + 1) = 0 := fun h => by
        have : A = none := by simpa using h
        have := HC.out.2 this
        omega
      have HNO := Sd.mk hno
      clear hdr hno
      go_wp2_with (at_builtin; refine append_ruls rfl _ _ rfl w.heap.size v1 (rs.take k) rfl HO1.out _ _ _ (rs.drop (k + 1)) ?n1 rfl ?n2 ?n3 ?n4 HB1.out.size ?n5)
      case n1 => rw [List.length_drop]
      case n2 => exact HNO.out
      case n3 => exact HDR.out
      case n4 => simp; omega
      case n5 =>
        intro v3 w4 ho3 hb3
        have HX := Sd.mk (HFIN.out v3 w4 ho3 hb3)
        clear ho3 hb3
        go_wp2
        refine bodyPost_ret (v := .tuple #[v3, .int .i64 0]) (by simp [results, Try.results37, go_sem, *]) rfl ⟨v3, rfl, HX.out⟩
set_option maxHeartbeats 2000000 in
set_option maxRecDepth 100000 in
theorem refCopy_any (rs : List Rul) (A : Option Addr) (cap : Nat) (w : World) (hl : rs.length ≤ 100000) (hR : RulsAt w A rs) :
    Calls Try.prog 40 #[.slice A rs.length cap] w fun e w' => ∃ g, e = .returned (.slice (some ⟨g, 0, none⟩) rs.length rs.length) ∧ OwnR w' w.heap.size (.slice (some ⟨g, 0, none⟩) rs.length rs.length) rs ∧ Below w.heap.size w w' := by
  obtain ⟨Z, hZl, hmk⟩ := mk_rules rs.length hl
  have HZL := Sd.mk hZl
  have HR := Sd.mk hR
  clear hZl hR
  go_enter Try.func40, Try.ntmps40
  go_upto_region 2 with fail
  have HBN := Sd.mk (below_alloc (Below.refl w.heap.size w) (.cells Z 60))
  go_wp2_with (with_reducible refine wpList_copy_wide rfl (.tmp 7) (.tmp 8) 46 46 rfl 12 60 Try.underlying46 sizeRule (some ⟨w.heap.size, 0, none⟩) A rs.length rs.length rs.length cap rfl rfl w.heap.size 0 Z.toList 60 ?c1 (rulsC rs) ?c2 ?c3 ?c4 (ruls_one rs) ?c5)
  case c1 =>
    have := Blk.new w Z 60
    unfold Blk at this
    simpa using this
  case c2 => rw [rulsC_len]; show _ = Nat.min _ _ * 12; rw [show Nat.min rs.length rs.length = rs.length from Nat.min_self _]
  case c3 =>
    intro hne
    obtain ⟨a, h1, hc⟩ := (HR.out.below HBN.out).flat hne
    exact ⟨a, h1, hc⟩
  case c4 => rw [rulsC_len]; have e : Z.toList.length = rs.length * 12 := Array.length_toList.trans HZL.out; omega
  case c5 =>
    intro w1 hg1 hw1
    have hb1 : Below w.heap.size w w1 := by
      rcases hw1 with rfl | rfl
      · exact HBN.out
      · exact below_setRow HBN.out (Nat.le_refl _) _
    rw [splice_whole _ _ (by rw [rulsC_len]; exact Array.length_toList.trans HZL.out)] at hg1
    have HG := Sd.mk hg1
    have HB1 := Sd.mk hb1
    clear hg1 hb1 hw1
    go_wp2
    go_ret
    exact ⟨_, rfl, ownR_of rfl (Nat.le_refl _) HG.out (Nat.le_refl _) (by unfold maxLen; omega) (rulsC_len rs) (List.take_of_length_le (by rw [rulsC_len]; exact Nat.le_refl _)), HB1.out⟩
theorem refFindAt (ls : List Rul) (A : Option Addr) (cap k : Nat) (hk : k < ls.length) (id : Int) (hl : ls.length ≤ 100000) (W : World) (hR : RulsAt W A ls) :
    Calls Try.prog 60 #[.slice A k cap, .int .i64 id] W fun e w' => e = .returned (.int .i64 (findI (ls.take k) id)) ∧ W = w' := by
  have e : (ls.take k).length = k := by rw [List.length_take]; omega
  have := refFind_any (ls.take k) A cap id (by omega) W (hR.take k)
  rwa [e] at this
set_option maxHeartbeats 2000000 in
set_option maxRecDepth 100000 in
theorem refSet_any (c : Cfg) (ls : List Rul) (A : Option Addr) (cap : Nat) (w : World) (hw : ∀ r ∈ ls, r.Wf) (hl : ls.length ≤ 100000) (hcap : ls.length ≤ cap) (hR : RulsAt w A ls) :
    Calls Try.prog 41 #[.slice A ls.length cap, .int .i64 c.max] w fun e w' => e = .returned (.int .i64 (setI c ls)) ∧ Below w.heap.size w w' := by
  have HR := Sd.mk hR
  have HW := Sd.mk hw
  clear hR hw
  go_enter Try.func41, Try.ntmps41
  go_wp2
  go_loopw [5] (fun iv wr => ∃ k : Nat, k ≤ ls.length ∧ iv = .int .i64 k ∧ Sd ((∀ j, j < k → stepI c ls j = 0) ∧ Below w.heap.size w wr)) (fun iv _ => ls.length - (intOf iv).toNat)
  case atStart => exact ⟨0, by omega, rfl, ⟨fun j hj => by omega, Below.refl _ _⟩⟩
  case round =>
    obtain ⟨k, hk, rfl, HI⟩ := hrel
    by_cases hlt : k < ls.length
    · have hRr := HR.out.below HI.out.2
      have HC := Sd.mk (fun W => rRuleCheck_any ls[k] (HW.out _ (List.getElem_mem _)) W)
      have hs := stepI_at c ls k hlt
      obtain ⟨g, o, rfl, hg, r0, r1, r2, r3, r4, r5, r6, r7, r8, r9, r10, r11⟩ := hRr.cells k hlt
      have HRr := Sd.mk hRr
      clear hRr
      go_wp2_with fail
      refine (HC.out _).mono ?_
      rintro e w1 ⟨rfl, hb1⟩
      have HB1 := Sd.mk (beyond HI.out.2 hb1)
      have HR1 := Sd.mk (HRr.out.below hb1)
      clear hb1 r0 r1 r2 r3 r4 r5 r6 r7 r8 r9 r10 r11
      by_cases h1 : ls[k].ck.1 ≠ 0
      · have ht : takesI (ls.take k) ls[k] = ls[k].ck.1 := by unfold takesI; simp [h1]
        rw [if_pos (by rw [ht]; exact h1), ht] at hs
        have HQ := Sd.mk (And.intro ((setI_at c ls k hlt HI.out.1 (by rw [hs]; exact h1)).trans hs) h1)
        have ht : (ls[k].ck.1 != 0) = true := by simp [h1]
        clear h1 hs
        go_wp2
        go_ret
        exact ⟨ret_int HQ.out.1.symm, HB1.out⟩
      · have h1' : ls[k].ck.1 = 0 := by omega
        have ht : (ls[k].ck.1 != 0) = false := by simp [h1']
        obtain ⟨g', o', e', hg', r0, r1, r2, r3, r4, r5, r6, r7, r8, r9, r10, r11⟩ := HR1.out.cells k hlt
        injection e' with e'
        injection e' with e1 e2
        subst e1 e2
        have HF := Sd.mk (refFindAt ls (some ⟨g, o, none⟩) cap k hlt ls[k].id hl w1.drew (HR1.out.below (Below.refl _ _).drew))
        have HB2 := Sd.mk (HB1.out.drew)
        clear r1 r2 r3 r4 r5 r6 r7 r8 r9 r10 r11
        go_upto_region 7 with fail
        refine wp_region_still_tail 8 (by kernel_rfl) (by kernel_rfl) ?_
        change wpStill _ _ w1.drew _ _ _
        simp only [List.take_succ_cons, List.take_zero, List.drop_succ_cons, List.drop_zero]
        repeat still_step
        refine wpStill_step (fun K hK => ?_)
        go_simp
        rw [if_pos (show k ≤ cap by omega)]
        refine ⟨rfl, hK _ ?_⟩
        clear hK K
        repeat still_step
        refine wpStill_nil ?_
        change wpList _ _ _ _ _ w1.drew
        go_wp2_with fail
        refine HF.out.mono ?_
        rintro e w2 ⟨rfl, rfl⟩
        by_cases h2 : 0 ≤ findI (ls.take k) ls[k].id
        · have ht2 : takesI (ls.take k) ls[k] = 111 := by unfold takesI; simp [h1', h2]
          rw [if_pos (by rw [ht2]; decide), ht2] at hs
          have HQ := Sd.mk ((setI_at c ls k hlt HI.out.1 (by rw [hs]; decide)).trans hs)
          clear hs ht2
          go_wp2
          go_ret
          exact ⟨ret_int HQ.out.symm, HB2.out⟩
        · have ht2 : takesI (ls.take k) ls[k] = 0 := by unfold takesI; simp [h1', h2]
          rw [if_neg (by rw [ht2]; decide)] at hs
          clear ht2
          by_cases h3 : c.max ≤ k
          · rw [if_pos h3] at hs
            have HQ := Sd.mk ((setI_at c ls k hlt HI.out.1 (by rw [hs]; omega)).trans hs)
            clear hs
            go_wp2
            go_ret
            exact ⟨ret_int HQ.out.symm, HB2.out⟩
          · rw [if_neg h3] at hs
            have HS := Sd.mk hs
            clear hs
            go_wp2
            go_roundw
            case rel => exact ⟨k + 1, by omega, by go_num, ⟨fun j hj => by
              by_cases e : j = k
              · rw [e]; exact HS.out
              · exact HI.out.1 j (by omega), HB2.out⟩⟩
            case measure => simp [intOf]; omega
    · have HQ := Sd.mk (setI_zero c ls (fun j hj => HI.out.1 j (by omega)))
      go_wp2
      go_ret
      exact ⟨ret_int HQ.out.symm, HI.out.2⟩
end Go.Proofs.Ytljliopmphaoeaa
