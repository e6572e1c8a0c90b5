/- build: the walk. -/
import Derived.Test.YtljliopmphaoeaaG2
import Derived.Deep.RegionHeld3
namespace Go.Proofs.Ytljliopmphaoeaa
open Go Go.RowKit Go.Proofs.Ytljliopmphaoeaa.Q
def Bx.whole : Bx := ⟨⟨0, 4294967295⟩, ⟨0, 4294967295⟩, ⟨0, 65535⟩, ⟨0, 65535⟩, ⟨0, 0⟩⟩
theorem whole_box (w : World) : Calls Try.prog 46 #[] w fun e w' => e = .returned (.agg #[.int .u32 Bx.whole.src.lo, .int .u32 Bx.whole.src.hi, .int .u32 Bx.whole.dst.lo, .int .u32 Bx.whole.dst.hi, .int .u16 Bx.whole.sp.lo, .int .u16 Bx.whole.sp.hi, .int .u16 Bx.whole.dp.lo, .int .u16 Bx.whole.dp.hi, .int .u8 Bx.whole.pr.v, .int .u8 Bx.whole.pr.c]) ∧ Below w.heap.size w w' := whole_any w
theorem whole_good : Good Bx.whole := ⟨⟨⟨by decide, by decide⟩, ⟨by decide, by decide⟩, ⟨by decide, by decide⟩, ⟨by decide, by decide⟩, ⟨by decide, by decide⟩⟩, by decide⟩
theorem rulBox_good (r : Rul) (hw : r.Wf) (hm : r.may = true) : Good r.box := by
  refine ⟨?_, r.box_ok hm⟩
  obtain ⟨_, h1, h2, h3, h4, h5, _⟩ := r.may_iff.1 hm
  have hc : r.ck.1 = 0 := by unfold Rul.may at hm; simpa using hm
  have hp : ∀ p : Pfx, p.Wf → p.ck = 0 → p.run.Wf := fun p hp h => by
    have := p.top h hp.a
    unfold Pfx.run
    rw [if_pos h]
    exact ⟨hp.a, this⟩
  unfold Rul.box
  rw [if_pos hc]
  exact ⟨hp _ hw.src h1, hp _ hw.dst h2, hw.sp, hw.dp, hw.pr⟩
theorem WaysAt.below {W W' : World} {S : Nat} (h : WaysAt W S) (hb : Below W.heap.size W W') : WaysAt W' S := by
  obtain ⟨v0, v1, v2, v3, h0, h1, h2, h3, h4⟩ := h
  exact ⟨v0, v1, v2, v3, h0.below hb h0.lt, h1.below hb, h2.below hb, h3.below hb, h4.below hb⟩
theorem all_range {W : World} {G n : Nat} {cur : List Value} (h1 : Blk W G cur.toArray 3) (h2 : cur.length = n) (h3 : cur.take n = numC (List.range n)) (hn : n ≤ 64) : OwnN W 0 (.slice (some ⟨G, 0, none⟩) n n) (List.range n) := by
  unfold OwnN World.ownsRow
  rw [List.length_range]
  refine ⟨by simp [numC], .inr ⟨G, n, cur.toArray, rfl, Nat.zero_le _, h1, Nat.le_refl _, by unfold maxLen; omega, by simp [h2], ?_⟩⟩
  simpa using h3
/-- what build leaves -/
def BuildP (w : World) (E : Nat) (c : Cfg) (tv : Value) (rs : List Rul) (B D : Nat) (w' : World) : Prop :=
  ∃ lv bv nv en ns l0, EngAt w' E c tv lv bv nv en ∧ OwnR w' w.heap.size lv rs ∧ OwnD w' w.heap.size nv ns ∧ l0 = insideI (boxesOf rs) Bx.whole (List.range rs.length) ∧ Tree w' ns (boxesOf rs) B D 0 Bx.whole l0 0 ∧ 1 ≤ ns.length ∧ ns.length + 1 ≤ 2 ^ (D + 1) ∧ en ≤ ns.length * rs.length ∧ Only w w' (fun j => j = E)
set_option maxHeartbeats 2000000 in
set_option maxRecDepth 100000 in
theorem build_any (E T : Nat) (c : Cfg) (rs : List Rul) (tv lv0 bv0 nv0 : Value) (en0 B D tb : Nat) (w : World) (hrs : ∀ r ∈ rs, r.Wf ∧ r.may = true) (hlen : rs.length ≤ 64) (hcb : c.binth = B) (hcd : c.depth = D) (hB1 : 1 ≤ B) (hBM : B ≤ 1000) (hDM : D ≤ 10)
    (hE : EngAt w E c (.pointer (some ⟨T, 0, none⟩)) lv0 bv0 nv0 en0) (hT : TabAt w T c tv) (hO : OwnR w tb tv rs) :
    Calls Try.prog 25 #[.pointer (some ⟨E, 0, none⟩)] w fun e w' => e = .returned (.tuple #[]) ∧ BuildP w E c (.pointer (some ⟨T, 0, none⟩)) rs B D w' := by
  have c7 := Blk.cell hE (i := 7) rfl
  have cl := Blk.lt hE
  have HR := Sd.mk (tabRules_any T c rs tb tv w (by omega) hT hO)
  have HRS := Sd.mk hrs
  have HEE := Sd.mk hE
  have HC := Sd.mk (And.intro hcb hcd)
  obtain ⟨Z, hZ, hmk⟩ := mk_ints rs.length (by omega)
  have HZ := Sd.mk hZ
  clear hT hO hrs hE hZ hcb hcd
  go_enter Try.func25, Try.ntmps25
  go_wp2_with fail
  refine HR.out.mono ?_
  rintro e w1 ⟨g, rfl, hg, ho, hb⟩
  have e1 := Blk.below HEE.out hb (Blk.lt HEE.out)
  have cf1 := Blk.frozen e1
  have cl1 := Blk.lt e1
  have a1 := Blk.at e1
  clear c7 cl HR
  go_upto_region 2 with fail
  have e2 := (((Blk.set e1 8 (.slice (some ⟨g, 0, none⟩) rs.length rs.length)).set 9 (.slice none 0 0)).set 10 (.slice none 0 0)).set 11 (.int .i64 0)
  simp only [List.setIfInBounds_toArray, List.set_cons_zero, List.set_cons_succ] at e2
  have o1 := row_other ho ⟨E, 8, none⟩ (.slice (some ⟨g, 0, none⟩) rs.length rs.length) (row_ne ho e1 (by decide))
  have x1 := Blk.set e1 8 (.slice (some ⟨g, 0, none⟩) rs.length rs.length)
  have o2 := row_other o1 ⟨E, 9, none⟩ (.slice none 0 0) (row_ne o1 x1 (by decide))
  have x2 := Blk.set x1 9 (.slice none 0 0)
  have o3 := row_other o2 ⟨E, 10, none⟩ (.slice none 0 0) (row_ne o2 x2 (by decide))
  have x3 := Blk.set x2 10 (.slice none 0 0)
  have o4 := row_other o3 ⟨E, 11, none⟩ (.int .i64 0) (row_ne o3 x3 (by decide))
  have n4 : Only w ((((w1.setCell ⟨E, 8, none⟩ (.slice (some ⟨g, 0, none⟩) rs.length rs.length)).setCell ⟨E, 9, none⟩ (.slice none 0 0)).setCell ⟨E, 10, none⟩ (.slice none 0 0)).setCell ⟨E, 11, none⟩ (.int .i64 0)) (fun j => j = E) := ((((below_only hb (fun j => j = E)).setCell _ _ (fun _ => rfl)).setCell _ _ (fun _ => rfl)).setCell _ _ (fun _ => rfl)).setCell _ _ (fun _ => rfl)
  obtain ⟨W1, hW1⟩ : ∃ W1, ((((w1.setCell ⟨E, 8, none⟩ (.slice (some ⟨g, 0, none⟩) rs.length rs.length)).setCell ⟨E, 9, none⟩ (.slice none 0 0)).setCell ⟨E, 10, none⟩ (.slice none 0 0)).setCell ⟨E, 11, none⟩ (.int .i64 0)) = W1 := ⟨_, rfl⟩
  rw [hW1] at e2 o4 n4
  rw [hW1]
  have HI0 : Sd (BuildI w E W1.heap.size c (.pointer (some ⟨T, 0, none⟩)) (.slice (some ⟨g, 0, none⟩) rs.length rs.length) rs 0 (.slice none 0 0) (W1.alloc (.cells Z 3))) := ⟨by
    refine ⟨Blk.alloc e2 _, World.ownsRow_nil _ _ _ _, o4.alloc _, ⟨Z.toList, by simpa using Blk.new W1 Z 3, by simpa using HZ.out, by simp [numC]⟩, n4.size, n4.alloc _⟩⟩
  have m8 := Blk.cell e2 (i := 8) rfl
  have l2 := Blk.lt e2
  clear e1 cf1 cl1 a1 e2 o1 o2 o3 o4 x1 x2 x3 n4 hW1 ho hb
  go_wp2
  go_loopw [36] (fun iv wr => ∃ k : Nat, k ≤ rs.length ∧ iv = .int .i64 k ∧ Sd (∃ bv, BuildI w E W1.heap.size c (.pointer (some ⟨T, 0, none⟩)) (.slice (some ⟨g, 0, none⟩) rs.length rs.length) rs k bv wr)) (fun iv _ => rs.length - (intOf iv).toNat)
  case atStart => exact ⟨0, by omega, rfl, ⟨_, HI0.out⟩⟩
  case round =>
    obtain ⟨k, hk, rfl, HX⟩ := hrel
    obtain ⟨bv, hI⟩ := HX.out
    by_cases hlt : k < rs.length
    · have hrul := hI.rul.ruls
      obtain ⟨g', o', hgo, hgl, r0, r1, r2, r3, r4, r5, r6, r7, r8, r9, r10, r11⟩ := hrul.cells k hlt
      obtain ⟨rfl, rfl⟩ : g = g' ∧ 0 = o' := by simpa using hgo
      simp only [Nat.zero_add] at r0 r1 r2 r3 r4 r5 r6 r7 r8 r9 r10 r11
      have HI := Sd.mk hI
      obtain ⟨W2, hW2⟩ : ∃ W2, wr.alloc (.cells #[.int .i64 rs[k].id, .int .u32 rs[k].src.a, .int .i64 rs[k].src.n, .int .u32 rs[k].dst.a, .int .i64 rs[k].dst.n, .int .u16 rs[k].sp.lo, .int .u16 rs[k].sp.hi, .int .u16 rs[k].dp.lo, .int .u16 rs[k].dp.hi, .int .u8 rs[k].pr.v, .int .u8 rs[k].pr.c, .int .i64 rs[k].act] 60) = W2 := ⟨_, rfl⟩
      have hbW : Below wr.heap.size wr W2 := by rw [← hW2]; exact below_alloc (Below.refl _ _) _
      have hkW : Blk W2 wr.heap.size #[.int .i64 rs[k].id, .int .u32 rs[k].src.a, .int .i64 rs[k].src.n, .int .u32 rs[k].dst.a, .int .i64 rs[k].dst.n, .int .u16 rs[k].sp.lo, .int .u16 rs[k].sp.hi, .int .u16 rs[k].dp.lo, .int .u16 rs[k].dp.hi, .int .u8 rs[k].pr.v, .int .u8 rs[k].pr.c, .int .i64 rs[k].act] 60 := by rw [← hW2]; exact Blk.new _ _ _
      obtain ⟨d0, d1, d2, d3, d4, d5, d6, d7, d8, d9, d10, d11⟩ := show W2.cell? ⟨wr.heap.size, 0, none⟩ = some (.int .i64 rs[k].id) ∧ W2.cell? ⟨wr.heap.size, 1, none⟩ = some (.int .u32 rs[k].src.a) ∧ W2.cell? ⟨wr.heap.size, 2, none⟩ = some (.int .i64 rs[k].src.n) ∧ W2.cell? ⟨wr.heap.size, 3, none⟩ = some (.int .u32 rs[k].dst.a) ∧ W2.cell? ⟨wr.heap.size, 4, none⟩ = some (.int .i64 rs[k].dst.n) ∧ W2.cell? ⟨wr.heap.size, 5, none⟩ = some (.int .u16 rs[k].sp.lo) ∧ W2.cell? ⟨wr.heap.size, 6, none⟩ = some (.int .u16 rs[k].sp.hi) ∧ W2.cell? ⟨wr.heap.size, 7, none⟩ = some (.int .u16 rs[k].dp.lo) ∧ W2.cell? ⟨wr.heap.size, 8, none⟩ = some (.int .u16 rs[k].dp.hi) ∧ W2.cell? ⟨wr.heap.size, 9, none⟩ = some (.int .u8 rs[k].pr.v) ∧ W2.cell? ⟨wr.heap.size, 10, none⟩ = some (.int .u8 rs[k].pr.c) ∧ W2.cell? ⟨wr.heap.size, 11, none⟩ = some (.int .i64 rs[k].act) from ⟨hkW.cell (i := 0) rfl, hkW.cell (i := 1) rfl, hkW.cell (i := 2) rfl, hkW.cell (i := 3) rfl, hkW.cell (i := 4) rfl, hkW.cell (i := 5) rfl, hkW.cell (i := 6) rfl, hkW.cell (i := 7) rfl, hkW.cell (i := 8) rfl, hkW.cell (i := 9) rfl, hkW.cell (i := 10) rfl, hkW.cell (i := 11) rfl⟩
      have HB := Sd.mk (ruleBox_any rs[k] (HRS.out _ (List.getElem_mem _)).1 (HRS.out _ (List.getElem_mem _)).2 W2)
      have HBW := Sd.mk hbW
      clear hI hrul hgo HX hkW hbW
      go_wp2_with fail
      refine HB.out.mono ?_
      rintro e w3 ⟨rfl, hb3⟩
      obtain ⟨W4, hW4⟩ : ∃ W4, w3.alloc (.cells #[.int .u32 rs[k].box.src.lo, .int .u32 rs[k].box.src.hi, .int .u32 rs[k].box.dst.lo, .int .u32 rs[k].box.dst.hi, .int .u16 rs[k].box.sp.lo, .int .u16 rs[k].box.sp.hi, .int .u16 rs[k].box.dp.lo, .int .u16 rs[k].box.dp.hi, .int .u8 rs[k].box.pr.v, .int .u8 rs[k].box.pr.c] 109) = W4 := ⟨_, rfl⟩
      have hb4 : Below wr.heap.size wr W4 := by rw [← hW4]; exact beyond (beyond HBW.out hb3) (below_alloc (Below.refl _ _) _)
      have hx4 : Blk W4 w3.heap.size #[.int .u32 rs[k].box.src.lo, .int .u32 rs[k].box.src.hi, .int .u32 rs[k].box.dst.lo, .int .u32 rs[k].box.dst.hi, .int .u16 rs[k].box.sp.lo, .int .u16 rs[k].box.sp.hi, .int .u16 rs[k].box.dp.lo, .int .u16 rs[k].box.dp.hi, .int .u8 rs[k].box.pr.v, .int .u8 rs[k].box.pr.c] 109 := by rw [← hW4]; exact Blk.new _ _ _
      clear r0 r1 r2 r3 r4 r5 r6 r7 r8 r9 r10 r11 d0 d1 d2 d3 d4 d5 d6 d7 d8 d9 d10 d11 hgl HB hb3
      go_upto_region 7 with fail
      try rw [hW4]
      generalize w3.heap.size = P4 at hx4 ⊢
      obtain ⟨c0, c1, c2, c3, c4, c5, c6, c7, c8, c9⟩ := show W4.cell? ⟨P4, 0, none⟩ = some (.int .u32 rs[k].box.src.lo) ∧ W4.cell? ⟨P4, 1, none⟩ = some (.int .u32 rs[k].box.src.hi) ∧ W4.cell? ⟨P4, 2, none⟩ = some (.int .u32 rs[k].box.dst.lo) ∧ W4.cell? ⟨P4, 3, none⟩ = some (.int .u32 rs[k].box.dst.hi) ∧ W4.cell? ⟨P4, 4, none⟩ = some (.int .u16 rs[k].box.sp.lo) ∧ W4.cell? ⟨P4, 5, none⟩ = some (.int .u16 rs[k].box.sp.hi) ∧ W4.cell? ⟨P4, 6, none⟩ = some (.int .u16 rs[k].box.dp.lo) ∧ W4.cell? ⟨P4, 7, none⟩ = some (.int .u16 rs[k].box.dp.hi) ∧ W4.cell? ⟨P4, 8, none⟩ = some (.int .u8 rs[k].box.pr.v) ∧ W4.cell? ⟨P4, 9, none⟩ = some (.int .u8 rs[k].box.pr.c) from ⟨hx4.cell (i := 0) rfl, hx4.cell (i := 1) rfl, hx4.cell (i := 2) rfl, hx4.cell (i := 3) rfl, hx4.cell (i := 4) rfl, hx4.cell (i := 5) rfl, hx4.cell (i := 6) rfl, hx4.cell (i := 7) rfl, hx4.cell (i := 8) rfl, hx4.cell (i := 9) rfl⟩
      have hI4 := HI.out.below hb4
      have q9 := Blk.cell hI4.eng (i := 9) rfl
      have ql := Blk.lt hI4.eng
      have qf := Blk.frozen hI4.eng
      have lx := hx4.lt
      have HI4 := Sd.mk hI4
      clear hI4 hb4 hW4 hx4 HBW m8
      obtain ⟨i0, hi, hz0, hz1, hz2⟩ := info_parts infoBox
      have HIN := Sd.mk (And.intro hi (And.intro hz0 (And.intro hz1 hz2)))
      have HON := Sd.mk (HI4.out.box)
      have hl0 : (boxesOf (rs.take k)).length = k := by unfold boxesOf; rw [List.length_map, List.length_take]; omega
      obtain ⟨BA, bc, rfl⟩ : ∃ A cp, bv = .slice A k cp := by
        obtain ⟨A, cp, h1, _⟩ := HI4.out.box.slice
        rw [hl0] at h1
        exact ⟨A, cp, h1⟩
      have HOW : Sd (W4.ownsRow w.heap.size 109 10 (.slice BA k bc) k (boxesC (boxesOf (rs.take k)))) := ⟨by have := HI4.out.box; unfold OwnB at this; rwa [hl0] at this⟩
      have HBN : Sd (k + 1 ≤ maxLen ∧ (k + 1) * 28 ≤ 140737488355328 ∧ w.heap.size ≤ W4.heap.size) := ⟨by unfold maxLen; omega, by omega, HI4.out.only.size⟩
      clear hi hz0 hz1 hz2 hl0 HON
      go_region_law ((refine step_append_own rfl _ _ 82 rfl w.heap.size 109 i0 _ 10 28 Try.underlying82 HIN.out.1 HIN.out.2.1 HIN.out.2.2.1 HIN.out.2.2.2 rfl (by decide) _ k (boxesC (boxesOf (rs.take k))) rfl (by exact (World.ownsRow.alloc HOW.out _).drew) ⟨W4.heap.size, 0, none⟩ 1 1 (boxC rs[k].box) rfl rfl (by exact fun j u h => cells_new W4 (boxC rs[k].box) _ rfl j u h) (box_one _) HBN.out.1 HBN.out.2.1 (by simpa using Nat.le_succ_of_le HBN.out.2.2) ?_; intro v1 w5 hown2 hg2 _; obtain ⟨f5, l5, m5, n5, HP, ⟨u5, g5⟩, g6, g7⟩ := build_push ((HI4.out.below (below_alloc (Below.refl _ _) _)).below (Below.refl _ _).drew) hlt hg2 hown2; obtain ⟨gv, cv, rfl⟩ := ownsRow_succ hown2; clear hown2 hg2))
      all_goals
        clear c0 c1 c2 c3 c4 c5 c6 c7 c8 c9 q9 ql qf lx
        go_wp2_with fail
        go_roundw
        case rel => exact ⟨k + 1, by omega, by go_num, ⟨_, HP.out⟩⟩
        case measure => simp [intOf]; omega
    · obtain rfl : k = rs.length := by omega
      obtain ⟨bx, hbx⟩ : ∃ bx, bx = Bx.whole := ⟨_, rfl⟩
      have HW : Sd (∀ W, Calls Try.prog 46 #[] W fun e w' => e = .returned (.agg #[.int .u32 bx.src.lo, .int .u32 bx.src.hi, .int .u32 bx.dst.lo, .int .u32 bx.dst.hi, .int .u16 bx.sp.lo, .int .u16 bx.sp.hi, .int .u16 bx.dp.lo, .int .u16 bx.dp.hi, .int .u8 bx.pr.v, .int .u8 bx.pr.c]) ∧ Below W.heap.size W w') := ⟨by rw [hbx]; exact whole_box⟩
      have hgood : Good bx := by rw [hbx]; exact whole_good
      have HBX := Sd.mk hbx
      have HI := Sd.mk hI
      clear hI HX hbx
      go_wp2_with fail
      refine (HW.out _).mono ?_
      rintro e w6 ⟨rfl, hb6⟩
      obtain ⟨M, hM⟩ : ∃ M, w6.alloc (.cells #[.int .u32 bx.src.lo, .int .u32 bx.src.hi, .int .u32 bx.dst.lo, .int .u32 bx.dst.hi, .int .u16 bx.sp.lo, .int .u16 bx.sp.hi, .int .u16 bx.dp.lo, .int .u16 bx.dp.hi, .int .u8 bx.pr.v, .int .u8 bx.pr.c] 109) = M := ⟨_, rfl⟩
      have hbM : Below wr.heap.size wr M := by rw [← hM]; exact beyond hb6 (below_alloc (Below.refl _ _) _)
      have hxM : Blk M w6.heap.size #[.int .u32 bx.src.lo, .int .u32 bx.src.hi, .int .u32 bx.dst.lo, .int .u32 bx.dst.hi, .int .u16 bx.sp.lo, .int .u16 bx.sp.hi, .int .u16 bx.dp.lo, .int .u16 bx.dp.hi, .int .u8 bx.pr.v, .int .u8 bx.pr.c] 109 := by rw [← hM]; exact Blk.new _ _ _
      go_upto_region 11 with fail
      try rw [hM]
      generalize w6.heap.size = P7 at hxM ⊢
      have hIM := HI.out.below hbM
      obtain ⟨cur, a1, a2, a3⟩ := hIM.all
      have hnum := all_range a1 a2 a3 hlen
      have hbs : ∀ z ∈ boxesOf rs, Good z := fun z hz => by
        unfold boxesOf at hz
        obtain ⟨r, hr, rfl⟩ := List.mem_map.1 hz
        exact rulBox_good r (HRS.out r hr).1 (HRS.out r hr).2
      have hbl : (boxesOf rs).length = rs.length := by unfold boxesOf; rw [List.length_map]
      have hEM : ∀ W, Below M.heap.size M W → ∀ Sx, WaysAt W Sx → GrowI W E Sx w.heap.size c (.pointer (some ⟨T, 0, none⟩)) (.slice (some ⟨g, 0, none⟩) rs.length rs.length) bv (.slice none 0 0) 0 (boxesOf rs) [] := fun W hW Sx hS => by
        have hIW := hIM.below hW
        have hbox := hIW.box
        rw [List.take_length] at hbox
        exact ⟨hIW.eng, ownsRow_mono hbox (Nat.zero_le _), hS, World.ownsRow_nil _ _ _ _, Blk.lt HEE.out, hIW.only.size, Nat.zero_le _⟩
      have HXI : Sd (∀ W, Below M.heap.size M W → Calls Try.prog 48 #[.pointer (some ⟨E, 0, none⟩), .agg #[.int .u32 bx.src.lo, .int .u32 bx.src.hi, .int .u32 bx.dst.lo, .int .u32 bx.dst.hi, .int .u16 bx.sp.lo, .int .u16 bx.sp.hi, .int .u16 bx.dp.lo, .int .u16 bx.dp.hi, .int .u8 bx.pr.v, .int .u8 bx.pr.c], .slice (some ⟨W1.heap.size, 0, none⟩) rs.length rs.length] W fun e w' => ∃ p, e = .returned p ∧ (w'.cell? ⟨P7, 0, none⟩ = some (.int .u32 bx.src.lo) ∧ w'.cell? ⟨P7, 1, none⟩ = some (.int .u32 bx.src.hi) ∧ w'.cell? ⟨P7, 2, none⟩ = some (.int .u32 bx.dst.lo) ∧ w'.cell? ⟨P7, 3, none⟩ = some (.int .u32 bx.dst.hi) ∧ w'.cell? ⟨P7, 4, none⟩ = some (.int .u16 bx.sp.lo) ∧ w'.cell? ⟨P7, 5, none⟩ = some (.int .u16 bx.sp.hi) ∧ w'.cell? ⟨P7, 6, none⟩ = some (.int .u16 bx.dp.lo) ∧ w'.cell? ⟨P7, 7, none⟩ = some (.int .u16 bx.dp.hi) ∧ w'.cell? ⟨P7, 8, none⟩ = some (.int .u8 bx.pr.v) ∧ w'.cell? ⟨P7, 9, none⟩ = some (.int .u8 bx.pr.c)) ∧ Below M.heap.size M w' ∧ OwnN w' 0 p (insideI (boxesOf rs) bx (List.range rs.length)) ∧ Below W.heap.size W w') := ⟨fun W hW => by
        have hIW := hIM.below hW
        have hbox := hIW.box
        rw [List.take_length] at hbox
        obtain ⟨BA, bc, hbv, hBA⟩ := OwnB.slice hbox
        have hE9 := Blk.cell hIW.eng (i := 9) rfl
        rw [hbv] at hE9
        have K := inside_any E (boxesOf rs) BA bc bx (List.range rs.length) (some ⟨W1.heap.size, 0, none⟩) rs.length W hgood.wf (fun z hz => (hbs z hz).wf) (fun i hi => by rw [hbl]; exact List.mem_range.1 hi) (by rw [List.length_range]; omega) hE9 hBA (by
          have h := hnum.below hW
          exact h.at)
        rw [List.length_range] at K
        refine K.mono fun e w' ⟨p, h1, h2, h3⟩ => ⟨p, h1, ?_, beyond hW h3, ownsRow_mono h2 (Nat.zero_le _), h3⟩
        have hx := (hxM.below hW hxM.lt).below h3 (hxM.below hW hxM.lt).lt
        exact ⟨hx.cell (i := 0) rfl, hx.cell (i := 1) rfl, hx.cell (i := 2) rfl, hx.cell (i := 3) rfl, hx.cell (i := 4) rfl, hx.cell (i := 5) rfl, hx.cell (i := 6) rfl, hx.cell (i := 7) rfl, hx.cell (i := 8) rfl, hx.cell (i := 9) rfl⟩⟩
      have HXH : Sd (∀ W, Below M.heap.size M W → Calls Try.prog 49 #[] W fun e w' => ∃ Sx, e = .returned (.slice (some ⟨Sx, 0, none⟩) 5 5) ∧ (w'.cell? ⟨P7, 0, none⟩ = some (.int .u32 bx.src.lo) ∧ w'.cell? ⟨P7, 1, none⟩ = some (.int .u32 bx.src.hi) ∧ w'.cell? ⟨P7, 2, none⟩ = some (.int .u32 bx.dst.lo) ∧ w'.cell? ⟨P7, 3, none⟩ = some (.int .u32 bx.dst.hi) ∧ w'.cell? ⟨P7, 4, none⟩ = some (.int .u16 bx.sp.lo) ∧ w'.cell? ⟨P7, 5, none⟩ = some (.int .u16 bx.sp.hi) ∧ w'.cell? ⟨P7, 6, none⟩ = some (.int .u16 bx.dp.lo) ∧ w'.cell? ⟨P7, 7, none⟩ = some (.int .u16 bx.dp.hi) ∧ w'.cell? ⟨P7, 8, none⟩ = some (.int .u8 bx.pr.v) ∧ w'.cell? ⟨P7, 9, none⟩ = some (.int .u8 bx.pr.c)) ∧ Below M.heap.size M w' ∧ WaysAt w' Sx ∧ Below W.heap.size W w') := ⟨fun W hW => by
        refine (halves_any W).mono fun e w' ⟨Sx, h1, _, h2, h3⟩ => ⟨Sx, h1, ?_, beyond hW h3, h2, h3⟩
        have hx := (hxM.below hW hxM.lt).below h3 (hxM.below hW hxM.lt).lt
        exact ⟨hx.cell (i := 0) rfl, hx.cell (i := 1) rfl, hx.cell (i := 2) rfl, hx.cell (i := 3) rfl, hx.cell (i := 4) rfl, hx.cell (i := 5) rfl, hx.cell (i := 6) rfl, hx.cell (i := 7) rfl, hx.cell (i := 8) rfl, hx.cell (i := 9) rfl⟩⟩
      have HXG : Sd (∀ W Sx p, Below M.heap.size M W → OwnN W 0 p (insideI (boxesOf rs) bx (List.range rs.length)) → WaysAt W Sx → Calls Try.prog 47 #[.pointer (some ⟨E, 0, none⟩), .agg #[.int .u32 bx.src.lo, .int .u32 bx.src.hi, .int .u32 bx.dst.lo, .int .u32 bx.dst.hi, .int .u16 bx.sp.lo, .int .u16 bx.sp.hi, .int .u16 bx.dp.lo, .int .u16 bx.dp.hi, .int .u8 bx.pr.v, .int .u8 bx.pr.c], p, .int .i64 0, .slice (some ⟨Sx, 0, none⟩) 5 5] W fun e w' => e = .returned (.int .i64 0) ∧ (w'.cell? ⟨P7, 0, none⟩ = some (.int .u32 bx.src.lo) ∧ w'.cell? ⟨P7, 1, none⟩ = some (.int .u32 bx.src.hi) ∧ w'.cell? ⟨P7, 2, none⟩ = some (.int .u32 bx.dst.lo) ∧ w'.cell? ⟨P7, 3, none⟩ = some (.int .u32 bx.dst.hi) ∧ w'.cell? ⟨P7, 4, none⟩ = some (.int .u16 bx.sp.lo) ∧ w'.cell? ⟨P7, 5, none⟩ = some (.int .u16 bx.sp.hi) ∧ w'.cell? ⟨P7, 6, none⟩ = some (.int .u16 bx.dp.lo) ∧ w'.cell? ⟨P7, 7, none⟩ = some (.int .u16 bx.dp.hi) ∧ w'.cell? ⟨P7, 8, none⟩ = some (.int .u8 bx.pr.v) ∧ w'.cell? ⟨P7, 9, none⟩ = some (.int .u8 bx.pr.c)) ∧ BuildP w E c (.pointer (some ⟨T, 0, none⟩)) rs B D w') := ⟨fun W Sx p hW hp hS => by
        have hpow : 2 ^ (D + 1) ≤ 2 ^ 11 := Nat.pow_le_pow_right (by omega) (by omega)
        have K := grow_any c (.pointer (some ⟨T, 0, none⟩)) (.slice (some ⟨g, 0, none⟩) rs.length rs.length) bv (boxesOf rs) E Sx w.heap.size B D hbs (by omega) HC.out.1 HC.out.2 hB1 hBM (by omega) D 0 (by omega) W bx (insideI (boxesOf rs) bx (List.range rs.length)) (List.range rs.length) p (.slice none 0 0) [] 0 hgood rfl (fun i hi => by rw [hbl]; exact List.mem_range.1 (insideI_sub _ _ _ i hi)) (by rw [hbl]; have := insideI_len (boxesOf rs) bx (List.range rs.length); rwa [List.length_range] at this) (hEM W hW Sx hS) hp (by simp only [List.length_nil]; omega)
        refine K.mono fun e w' ⟨h1, nv', ns', en', h2, h3, h4, h5, h6⟩ => ⟨h1, ?_, ?_⟩
        · have hx := h6.blk (hEM W hW Sx hS).eng (hxM.below hW hxM.lt) (by decide) (by decide)
          exact ⟨hx.cell (i := 0) rfl, hx.cell (i := 1) rfl, hx.cell (i := 2) rfl, hx.cell (i := 3) rfl, hx.cell (i := 4) rfl, hx.cell (i := 5) rfl, hx.cell (i := 6) rfl, hx.cell (i := 7) rfl, hx.cell (i := 8) rfl, hx.cell (i := 9) rfl⟩
        · have hrul := (hIM.below hW).rul
          have hen := h2.en
          rw [hbl] at hen
          rw [HBX.out] at h3
          exact ⟨_, _, nv', en', ns', _, h2.eng, h6.row (hEM W hW Sx hS).eng hrul (by decide) (by decide), h2.nds, rfl, h3, h4, h5, hen, (hIM.below hW).only.trans h6.toOnly (fun b hb h => by
            rcases h with h | h
            · exact h
            · omega)⟩⟩
      have hM0 : Below M.heap.size M M.drew := (Below.refl _ _).drew
      have hx0 := hxM.drew
      have HS0 : Sd (M.drew.cell? ⟨P7, 0, none⟩ = some (.int .u32 bx.src.lo) ∧ M.drew.cell? ⟨P7, 1, none⟩ = some (.int .u32 bx.src.hi) ∧ M.drew.cell? ⟨P7, 2, none⟩ = some (.int .u32 bx.dst.lo) ∧ M.drew.cell? ⟨P7, 3, none⟩ = some (.int .u32 bx.dst.hi) ∧ M.drew.cell? ⟨P7, 4, none⟩ = some (.int .u16 bx.sp.lo) ∧ M.drew.cell? ⟨P7, 5, none⟩ = some (.int .u16 bx.sp.hi) ∧ M.drew.cell? ⟨P7, 6, none⟩ = some (.int .u16 bx.dp.lo) ∧ M.drew.cell? ⟨P7, 7, none⟩ = some (.int .u16 bx.dp.hi) ∧ M.drew.cell? ⟨P7, 8, none⟩ = some (.int .u8 bx.pr.v) ∧ M.drew.cell? ⟨P7, 9, none⟩ = some (.int .u8 bx.pr.c)) := ⟨⟨hx0.cell (i := 0) rfl, hx0.cell (i := 1) rfl, hx0.cell (i := 2) rfl, hx0.cell (i := 3) rfl, hx0.cell (i := 4) rfl, hx0.cell (i := 5) rfl, hx0.cell (i := 6) rfl, hx0.cell (i := 7) rfl, hx0.cell (i := 8) rfl, hx0.cell (i := 9) rfl⟩⟩
      clear hgood hb6 hbM hxM hIM a1 a2 a3 hnum hbs hbl hEM hx0 hM
      go_region_held3 (fun W => W.cell? ⟨P7, 0, none⟩ = some (.int .u32 bx.src.lo) ∧ W.cell? ⟨P7, 1, none⟩ = some (.int .u32 bx.src.hi) ∧ W.cell? ⟨P7, 2, none⟩ = some (.int .u32 bx.dst.lo) ∧ W.cell? ⟨P7, 3, none⟩ = some (.int .u32 bx.dst.hi) ∧ W.cell? ⟨P7, 4, none⟩ = some (.int .u16 bx.sp.lo) ∧ W.cell? ⟨P7, 5, none⟩ = some (.int .u16 bx.sp.hi) ∧ W.cell? ⟨P7, 6, none⟩ = some (.int .u16 bx.dp.lo) ∧ W.cell? ⟨P7, 7, none⟩ = some (.int .u16 bx.dp.hi) ∧ W.cell? ⟨P7, 8, none⟩ = some (.int .u8 bx.pr.v) ∧ W.cell? ⟨P7, 9, none⟩ = some (.int .u8 bx.pr.c))
        (first | (with_reducible assumption) | (with_reducible exact HS0.out))
        (first | (go_at_call 49; (first | (with_reducible refine (HXH.out _ hM0).mono ?_) | (with_reducible refine (HXH.out _ hm1).mono ?_)); rintro e w8 ⟨Sx, rfl, hc2, hm2, hw, hbh⟩) | (go_at_call 48; (first | (with_reducible refine (HXI.out _ hM0).mono ?_) | (with_reducible refine (HXI.out _ hm2).mono ?_)); rintro e w9 ⟨p, rfl, hc1, hm1, hp, hbp⟩) | (go_at_call 47; (first | (with_reducible refine (HXG.out _ _ _ hm2 (hp.below hbh) hw).mono ?_) | (with_reducible refine (HXG.out _ _ _ hm1 hp (hw.below hbp)).mono ?_)); rintro e w10 ⟨rfl, hc3, hfin⟩))
      all_goals
        go_wp2_with fail
        go_end0
        exact ⟨rfl, hfin⟩
end Go.Proofs.Ytljliopmphaoeaa
