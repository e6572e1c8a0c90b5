/- CutsNew. -/
import Derived.Test.YtljliopmphaoeaaL4
namespace Go.Proofs.Ytljliopmphaoeaa
open Go Go.RowKit Go.Proofs.Ytljliopmphaoeaa.Q
theorem eqVd (d : Int) (W : World) : (binOp .eql 36 (.agg #[.bool false, .int .i64 0, .int .i64 d]) (.agg #[.bool false, .int .i64 0, .int .i64 d])).run Try.prog W = .ok (.bool true) W := by
  go_simp
set_option maxHeartbeats 2000000 in
set_option maxRecDepth 100000 in
theorem lawNew_no (c : Cfg) (h : Hdr) (hc : c.ck = 110) (w : World) : Calls Try.prog 3 #[.agg #[.int .i64 c.max, .int .i64 c.dflt, .int .i64 c.prune, .int .i64 c.grid, .int .i64 c.tuple, .int .i64 c.binth, .int .i64 c.depth], .agg #[.int .u32 h.src, .int .u32 h.dst, .int .u16 h.sp, .int .u16 h.dp, .int .u8 h.pr]] w fun e w' => e = .returned (.bool true) ∧ Below w.heap.size w w' := by
  obtain ⟨M, hM⟩ : ∃ M, (w.alloc (.cells #[.int .i64 c.max, .int .i64 c.dflt, .int .i64 c.prune, .int .i64 c.grid, .int .i64 c.tuple, .int .i64 c.binth, .int .i64 c.depth] 24)).alloc (.cells #[.int .u32 h.src, .int .u32 h.dst, .int .u16 h.sp, .int .u16 h.dp, .int .u8 h.pr] 28) = M := ⟨_, rfl⟩
  have hb : Below w.heap.size w M := by rw [← hM]; exact below_alloc (below_alloc (Below.refl _ _) _) _
  have hcb : Blk M w.heap.size #[.int .i64 c.max, .int .i64 c.dflt, .int .i64 c.prune, .int .i64 c.grid, .int .i64 c.tuple, .int .i64 c.binth, .int .i64 c.depth] 24 := by rw [← hM]; exact (Blk.new w _ _).alloc _
  have K := refCheck_any c
  rw [hc] at K
  have HK := Sd.mk K
  have HN := Sd.mk (fun W => cutsNew_no c W hc)
  have HA := Sd.mk awake_any
  have HB := Sd.mk hb
  have HC := Sd.mk hcb
  obtain ⟨c0, c1, c2, c3, c4, c5, c6⟩ := show M.cell? ⟨w.heap.size, 0, none⟩ = some (.int .i64 c.max) ∧ M.cell? ⟨w.heap.size, 1, none⟩ = some (.int .i64 c.dflt) ∧ M.cell? ⟨w.heap.size, 2, none⟩ = some (.int .i64 c.prune) ∧ M.cell? ⟨w.heap.size, 3, none⟩ = some (.int .i64 c.grid) ∧ M.cell? ⟨w.heap.size, 4, none⟩ = some (.int .i64 c.tuple) ∧ M.cell? ⟨w.heap.size, 5, none⟩ = some (.int .i64 c.binth) ∧ M.cell? ⟨w.heap.size, 6, none⟩ = some (.int .i64 c.depth) from ⟨hcb.cell (i := 0) rfl, hcb.cell (i := 1) rfl, hcb.cell (i := 2) rfl, hcb.cell (i := 3) rfl, hcb.cell (i := 4) rfl, hcb.cell (i := 5) rfl, hcb.cell (i := 6) rfl⟩
  have HM := Sd.mk hM
  clear K hb hcb hM hc
  go_enter Try.func3, Try.ntmps3
  go_upto_region 1 with fail
  rw [HM.out]
  go_wp2_with fail
  refine (HK.out _).mono ?_
  rintro e w1 ⟨rfl, hb1⟩
  have k1 := HC.out.below hb1 HC.out.lt
  have HB1 := Sd.mk (beyond HB.out hb1)
  clear c0 c1 c2 c3 c4 c5 c6 hb1
  obtain ⟨c0, c1, c2, c3, c4, c5, c6⟩ := show w1.cell? ⟨w.heap.size, 0, none⟩ = some (.int .i64 c.max) ∧ w1.cell? ⟨w.heap.size, 1, none⟩ = some (.int .i64 c.dflt) ∧ w1.cell? ⟨w.heap.size, 2, none⟩ = some (.int .i64 c.prune) ∧ w1.cell? ⟨w.heap.size, 3, none⟩ = some (.int .i64 c.grid) ∧ w1.cell? ⟨w.heap.size, 4, none⟩ = some (.int .i64 c.tuple) ∧ w1.cell? ⟨w.heap.size, 5, none⟩ = some (.int .i64 c.binth) ∧ w1.cell? ⟨w.heap.size, 6, none⟩ = some (.int .i64 c.depth) from ⟨k1.cell (i := 0) rfl, k1.cell (i := 1) rfl, k1.cell (i := 2) rfl, k1.cell (i := 3) rfl, k1.cell (i := 4) rfl, k1.cell (i := 5) rfl, k1.cell (i := 6) rfl⟩
  clear k1
  go_wp2_with fail
  refine (HN.out _).mono ?_
  rintro e w2 ⟨rfl, hb2⟩
  have HB2 := Sd.mk (beyond HB1.out hb2)
  clear c0 c1 c2 c3 c4 c5 c6 hb2
  go_wp2_with fail
  refine (HA.out _).mono ?_
  rintro e w3 ⟨rfl, hb3⟩
  have HB3 := Sd.mk (beyond HB2.out hb3)
  clear hb3
  go_wp2
  go_ret
  exact ⟨rfl, HB3.out⟩
set_option maxHeartbeats 2000000 in
set_option maxRecDepth 100000 in
theorem lawNew_ok (c : Cfg) (h : Hdr) (hh : h.Wf) (hc : c.ck = 0) (w : World) : Calls Try.prog 3 #[.agg #[.int .i64 c.max, .int .i64 c.dflt, .int .i64 c.prune, .int .i64 c.grid, .int .i64 c.tuple, .int .i64 c.binth, .int .i64 c.depth], .agg #[.int .u32 h.src, .int .u32 h.dst, .int .u16 h.sp, .int .u16 h.dp, .int .u8 h.pr]] w fun e w' => e = .returned (.bool true) ∧ Below w.heap.size w w' := by
  obtain ⟨M, hM⟩ : ∃ M, (w.alloc (.cells #[.int .i64 c.max, .int .i64 c.dflt, .int .i64 c.prune, .int .i64 c.grid, .int .i64 c.tuple, .int .i64 c.binth, .int .i64 c.depth] 24)).alloc (.cells #[.int .u32 h.src, .int .u32 h.dst, .int .u16 h.sp, .int .u16 h.dp, .int .u8 h.pr] 28) = M := ⟨_, rfl⟩
  have hb : Below w.heap.size w M := by rw [← hM]; exact below_alloc (below_alloc (Below.refl _ _) _) _
  have hcb : Blk M w.heap.size #[.int .i64 c.max, .int .i64 c.dflt, .int .i64 c.prune, .int .i64 c.grid, .int .i64 c.tuple, .int .i64 c.binth, .int .i64 c.depth] 24 := by rw [← hM]; exact (Blk.new w _ _).alloc _
  have hhb : Blk M (w.heap.size + 1) #[.int .u32 h.src, .int .u32 h.dst, .int .u16 h.sp, .int .u16 h.dp, .int .u8 h.pr] 28 := by rw [← hM]; exact blkN (by simp) _ _
  have K := refCheck_any c
  rw [hc] at K
  have HK := Sd.mk K
  have HN := Sd.mk (fun W => cutsNew_ok c W hc)
  have HB := Sd.mk hb
  have HC := Sd.mk (And.intro hcb hhb)
  have HCK := Sd.mk hc
  obtain ⟨c0, c1, c2, c3, c4, c5, c6⟩ := show M.cell? ⟨w.heap.size, 0, none⟩ = some (.int .i64 c.max) ∧ M.cell? ⟨w.heap.size, 1, none⟩ = some (.int .i64 c.dflt) ∧ M.cell? ⟨w.heap.size, 2, none⟩ = some (.int .i64 c.prune) ∧ M.cell? ⟨w.heap.size, 3, none⟩ = some (.int .i64 c.grid) ∧ M.cell? ⟨w.heap.size, 4, none⟩ = some (.int .i64 c.tuple) ∧ M.cell? ⟨w.heap.size, 5, none⟩ = some (.int .i64 c.binth) ∧ M.cell? ⟨w.heap.size, 6, none⟩ = some (.int .i64 c.depth) from ⟨hcb.cell (i := 0) rfl, hcb.cell (i := 1) rfl, hcb.cell (i := 2) rfl, hcb.cell (i := 3) rfl, hcb.cell (i := 4) rfl, hcb.cell (i := 5) rfl, hcb.cell (i := 6) rfl⟩
  have HM := Sd.mk hM
  clear K hb hcb hhb hM hc
  go_enter Try.func3, Try.ntmps3
  go_upto_region 1 with fail
  rw [HM.out]
  go_wp2_with fail
  refine (HK.out _).mono ?_
  rintro e w1 ⟨rfl, hb1⟩
  have k1 := HC.out.1.below hb1 HC.out.1.lt
  have HB1 := Sd.mk hb1
  clear c0 c1 c2 c3 c4 c5 c6 hb1
  obtain ⟨c0, c1, c2, c3, c4, c5, c6⟩ := show w1.cell? ⟨w.heap.size, 0, none⟩ = some (.int .i64 c.max) ∧ w1.cell? ⟨w.heap.size, 1, none⟩ = some (.int .i64 c.dflt) ∧ w1.cell? ⟨w.heap.size, 2, none⟩ = some (.int .i64 c.prune) ∧ w1.cell? ⟨w.heap.size, 3, none⟩ = some (.int .i64 c.grid) ∧ w1.cell? ⟨w.heap.size, 4, none⟩ = some (.int .i64 c.tuple) ∧ w1.cell? ⟨w.heap.size, 5, none⟩ = some (.int .i64 c.binth) ∧ w1.cell? ⟨w.heap.size, 6, none⟩ = some (.int .i64 c.depth) from ⟨k1.cell (i := 0) rfl, k1.cell (i := 1) rfl, k1.cell (i := 2) rfl, k1.cell (i := 3) rfl, k1.cell (i := 4) rfl, k1.cell (i := 5) rfl, k1.cell (i := 6) rfl⟩
  clear k1
  go_wp2_with fail
  refine (HN.out _).mono ?_
  rintro e w2 ⟨E, T, base, lv, rfl, k0, _, _, _, hb2⟩
  have HB2 := Sd.mk (beyond HB1.out hb2)
  have k2 := HC.out.1.below HB2.out HC.out.1.lt
  have k3 := HC.out.2.below HB2.out HC.out.2.lt
  clear c0 c1 c2 c3 c4 c5 c6
  obtain ⟨b0, b1, b2, b3, b4⟩ := show w2.cell? ⟨w.heap.size + 1, 0, none⟩ = some (.int .u32 h.src) ∧ w2.cell? ⟨w.heap.size + 1, 1, none⟩ = some (.int .u32 h.dst) ∧ w2.cell? ⟨w.heap.size + 1, 2, none⟩ = some (.int .u16 h.sp) ∧ w2.cell? ⟨w.heap.size + 1, 3, none⟩ = some (.int .u16 h.dp) ∧ w2.cell? ⟨w.heap.size + 1, 4, none⟩ = some (.int .u8 h.pr) from ⟨k3.cell (i := 0) rfl, k3.cell (i := 1) rfl, k3.cell (i := 2) rfl, k3.cell (i := 3) rfl, k3.cell (i := 4) rfl⟩
  obtain ⟨e, n, q1, q2, q3, q4, KA⟩ := k0.asks h hh
  obtain ⟨N, en, s1, s2, s3, KS⟩ := k0.stats
  have KA0 := KA w2 (Below.refl _ _)
  have hmat : matchC [] c.dflt h = #[.bool false, .int .i64 0, .int .i64 c.dflt] := rfl
  have hstp : stepC (e + 1) n e = #[.int .i64 ((e : Int) + 1), .int .i64 (n : Int), .int .i64 (e : Int), .int .i64 0, .int .i64 0] := by unfold stepC; push_cast; rfl
  rw [hmat, hstp] at KA0
  have HA0 := Sd.mk KA0
  have HF := Sd.mk (And.intro q1 (And.intro q2 (And.intro q3 (And.intro s1 (And.intro s2 s3)))))
  have HS := Sd.mk KS
  have HKK := Sd.mk (And.intro k2 k3)
  have HH := Sd.mk hh
  clear KA KA0 KS q1 q2 q3 q4 s1 s2 s3 k0 hmat hstp hb2 k2 k3 hh
  go_upto_region 7 with fail
  go_wp2_with fail
  refine HA0.out.mono ?_
  rintro x w4 ⟨rfl, hb4⟩
  go_upto_region 8 with fail
  obtain ⟨W5, hW5⟩ : ∃ W5, (w4.alloc (.cells #[.bool false, .int .i64 0, .int .i64 c.dflt] 36)).alloc (.cells #[.int .i64 ((e : Int) + 1), .int .i64 (n : Int), .int .i64 (e : Int), .int .i64 0, .int .i64 0] 38) = W5 := ⟨_, rfl⟩
  have x5 : Blk W5 w4.heap.size #[.bool false, .int .i64 0, .int .i64 c.dflt] 36 := by rw [← hW5]; exact (Blk.new _ _ _).alloc _
  have y5 : Blk W5 (w4.heap.size + 1) #[.int .i64 ((e : Int) + 1), .int .i64 (n : Int), .int .i64 (e : Int), .int .i64 0, .int .i64 0] 38 := by rw [← hW5]; exact blkN (by simp) _ _
  have z5 : Below w2.heap.size w2 W5 := by rw [← hW5]; exact beyond hb4 (below_alloc (below_alloc (Below.refl _ _) _) _)
  try rw [hW5]
  generalize w4.heap.size = Q at x5 y5 ⊢
  have kc := HKK.out.1.below z5 HKK.out.1.lt
  have kh := HKK.out.2.below z5 HKK.out.2.lt
  have KSS : ∀ W, Below W5.heap.size W5 W → (W.cell? ⟨w.heap.size, 0, none⟩ = some (.int .i64 c.max) ∧ W.cell? ⟨w.heap.size, 1, none⟩ = some (.int .i64 c.dflt) ∧ W.cell? ⟨w.heap.size, 2, none⟩ = some (.int .i64 c.prune) ∧ W.cell? ⟨w.heap.size, 3, none⟩ = some (.int .i64 c.grid) ∧ W.cell? ⟨w.heap.size, 4, none⟩ = some (.int .i64 c.tuple) ∧ W.cell? ⟨w.heap.size, 5, none⟩ = some (.int .i64 c.binth) ∧ W.cell? ⟨w.heap.size, 6, none⟩ = some (.int .i64 c.depth) ∧ W.cell? ⟨w.heap.size + 1, 0, none⟩ = some (.int .u32 h.src) ∧ W.cell? ⟨w.heap.size + 1, 1, none⟩ = some (.int .u32 h.dst) ∧ W.cell? ⟨w.heap.size + 1, 2, none⟩ = some (.int .u16 h.sp) ∧ W.cell? ⟨w.heap.size + 1, 3, none⟩ = some (.int .u16 h.dp) ∧ W.cell? ⟨w.heap.size + 1, 4, none⟩ = some (.int .u8 h.pr) ∧ W.cell? ⟨Q, 0, none⟩ = some (.bool false) ∧ W.cell? ⟨Q, 1, none⟩ = some (.int .i64 0) ∧ W.cell? ⟨Q, 2, none⟩ = some (.int .i64 c.dflt) ∧ W.cell? ⟨Q + 1, 0, none⟩ = some (.int .i64 ((e : Int) + 1)) ∧ W.cell? ⟨Q + 1, 1, none⟩ = some (.int .i64 (n : Int)) ∧ W.cell? ⟨Q + 1, 2, none⟩ = some (.int .i64 (e : Int)) ∧ W.cell? ⟨Q + 1, 3, none⟩ = some (.int .i64 0) ∧ W.cell? ⟨Q + 1, 4, none⟩ = some (.int .i64 0)) := fun W hW => by
    have g1 := kc.below hW kc.lt
    have g2 := kh.below hW kh.lt
    have g3 := x5.below hW x5.lt
    have g4 := y5.below hW y5.lt
    exact ⟨g1.cell (i := 0) rfl, g1.cell (i := 1) rfl, g1.cell (i := 2) rfl, g1.cell (i := 3) rfl, g1.cell (i := 4) rfl, g1.cell (i := 5) rfl, g1.cell (i := 6) rfl, g2.cell (i := 0) rfl, g2.cell (i := 1) rfl, g2.cell (i := 2) rfl, g2.cell (i := 3) rfl, g2.cell (i := 4) rfl, g3.cell (i := 0) rfl, g3.cell (i := 1) rfl, g3.cell (i := 2) rfl, g4.cell (i := 0) rfl, g4.cell (i := 1) rfl, g4.cell (i := 2) rfl, g4.cell (i := 3) rfl, g4.cell (i := 4) rfl⟩
  have HAW : Sd (∀ W, Below W5.heap.size W5 W → Calls Try.prog 11 #[] W fun x w' => x = .returned (.bool true) ∧ (w'.cell? ⟨w.heap.size, 0, none⟩ = some (.int .i64 c.max) ∧ w'.cell? ⟨w.heap.size, 1, none⟩ = some (.int .i64 c.dflt) ∧ w'.cell? ⟨w.heap.size, 2, none⟩ = some (.int .i64 c.prune) ∧ w'.cell? ⟨w.heap.size, 3, none⟩ = some (.int .i64 c.grid) ∧ w'.cell? ⟨w.heap.size, 4, none⟩ = some (.int .i64 c.tuple) ∧ w'.cell? ⟨w.heap.size, 5, none⟩ = some (.int .i64 c.binth) ∧ w'.cell? ⟨w.heap.size, 6, none⟩ = some (.int .i64 c.depth) ∧ w'.cell? ⟨w.heap.size + 1, 0, none⟩ = some (.int .u32 h.src) ∧ w'.cell? ⟨w.heap.size + 1, 1, none⟩ = some (.int .u32 h.dst) ∧ w'.cell? ⟨w.heap.size + 1, 2, none⟩ = some (.int .u16 h.sp) ∧ w'.cell? ⟨w.heap.size + 1, 3, none⟩ = some (.int .u16 h.dp) ∧ w'.cell? ⟨w.heap.size + 1, 4, none⟩ = some (.int .u8 h.pr) ∧ w'.cell? ⟨Q, 0, none⟩ = some (.bool false) ∧ w'.cell? ⟨Q, 1, none⟩ = some (.int .i64 0) ∧ w'.cell? ⟨Q, 2, none⟩ = some (.int .i64 c.dflt) ∧ w'.cell? ⟨Q + 1, 0, none⟩ = some (.int .i64 ((e : Int) + 1)) ∧ w'.cell? ⟨Q + 1, 1, none⟩ = some (.int .i64 (n : Int)) ∧ w'.cell? ⟨Q + 1, 2, none⟩ = some (.int .i64 (e : Int)) ∧ w'.cell? ⟨Q + 1, 3, none⟩ = some (.int .i64 0) ∧ w'.cell? ⟨Q + 1, 4, none⟩ = some (.int .i64 0)) ∧ Below W5.heap.size W5 w') := ⟨fun W hW => (awake_any W).mono fun x w' k => ⟨k.1, KSS w' (beyond hW k.2), beyond hW k.2⟩⟩
  have HST : Sd (∀ W, Below W5.heap.size W5 W → Calls Try.prog 14 #[.pointer (some ⟨E, 0, none⟩)] W fun x w' => x = .returned (.agg #[.int .i64 N, .int .i64 en, .int .i64 0, .int .i64 0]) ∧ (w'.cell? ⟨w.heap.size, 0, none⟩ = some (.int .i64 c.max) ∧ w'.cell? ⟨w.heap.size, 1, none⟩ = some (.int .i64 c.dflt) ∧ w'.cell? ⟨w.heap.size, 2, none⟩ = some (.int .i64 c.prune) ∧ w'.cell? ⟨w.heap.size, 3, none⟩ = some (.int .i64 c.grid) ∧ w'.cell? ⟨w.heap.size, 4, none⟩ = some (.int .i64 c.tuple) ∧ w'.cell? ⟨w.heap.size, 5, none⟩ = some (.int .i64 c.binth) ∧ w'.cell? ⟨w.heap.size, 6, none⟩ = some (.int .i64 c.depth) ∧ w'.cell? ⟨w.heap.size + 1, 0, none⟩ = some (.int .u32 h.src) ∧ w'.cell? ⟨w.heap.size + 1, 1, none⟩ = some (.int .u32 h.dst) ∧ w'.cell? ⟨w.heap.size + 1, 2, none⟩ = some (.int .u16 h.sp) ∧ w'.cell? ⟨w.heap.size + 1, 3, none⟩ = some (.int .u16 h.dp) ∧ w'.cell? ⟨w.heap.size + 1, 4, none⟩ = some (.int .u8 h.pr) ∧ w'.cell? ⟨Q, 0, none⟩ = some (.bool false) ∧ w'.cell? ⟨Q, 1, none⟩ = some (.int .i64 0) ∧ w'.cell? ⟨Q, 2, none⟩ = some (.int .i64 c.dflt) ∧ w'.cell? ⟨Q + 1, 0, none⟩ = some (.int .i64 ((e : Int) + 1)) ∧ w'.cell? ⟨Q + 1, 1, none⟩ = some (.int .i64 (n : Int)) ∧ w'.cell? ⟨Q + 1, 2, none⟩ = some (.int .i64 (e : Int)) ∧ w'.cell? ⟨Q + 1, 3, none⟩ = some (.int .i64 0) ∧ w'.cell? ⟨Q + 1, 4, none⟩ = some (.int .i64 0)) ∧ Below W5.heap.size W5 w') := ⟨fun W hW => (HS.out W (beyond z5 hW)).mono fun x w' k => ⟨k.1, KSS w' (beyond hW k.2), beyond hW k.2⟩⟩
  have HFT : Sd (∀ W, Below W5.heap.size W5 W → Calls Try.prog 13 #[.agg #[.int .i64 c.max, .int .i64 c.dflt, .int .i64 c.prune, .int .i64 c.grid, .int .i64 c.tuple, .int .i64 c.binth, .int .i64 c.depth], .slice none 0 0, .agg #[.int .u32 h.src, .int .u32 h.dst, .int .u16 h.sp, .int .u16 h.dp, .int .u8 h.pr], .agg #[.bool false, .int .i64 0, .int .i64 c.dflt], .agg #[.int .i64 ((e : Int) + 1), .int .i64 (n : Int), .int .i64 (e : Int), .int .i64 0, .int .i64 0], .agg #[.int .i64 (N : Int), .int .i64 (en : Int), .int .i64 0, .int .i64 0]] W fun x w' => x = .returned (.bool true) ∧ (w'.cell? ⟨w.heap.size, 0, none⟩ = some (.int .i64 c.max) ∧ w'.cell? ⟨w.heap.size, 1, none⟩ = some (.int .i64 c.dflt) ∧ w'.cell? ⟨w.heap.size, 2, none⟩ = some (.int .i64 c.prune) ∧ w'.cell? ⟨w.heap.size, 3, none⟩ = some (.int .i64 c.grid) ∧ w'.cell? ⟨w.heap.size, 4, none⟩ = some (.int .i64 c.tuple) ∧ w'.cell? ⟨w.heap.size, 5, none⟩ = some (.int .i64 c.binth) ∧ w'.cell? ⟨w.heap.size, 6, none⟩ = some (.int .i64 c.depth) ∧ w'.cell? ⟨w.heap.size + 1, 0, none⟩ = some (.int .u32 h.src) ∧ w'.cell? ⟨w.heap.size + 1, 1, none⟩ = some (.int .u32 h.dst) ∧ w'.cell? ⟨w.heap.size + 1, 2, none⟩ = some (.int .u16 h.sp) ∧ w'.cell? ⟨w.heap.size + 1, 3, none⟩ = some (.int .u16 h.dp) ∧ w'.cell? ⟨w.heap.size + 1, 4, none⟩ = some (.int .u8 h.pr) ∧ w'.cell? ⟨Q, 0, none⟩ = some (.bool false) ∧ w'.cell? ⟨Q, 1, none⟩ = some (.int .i64 0) ∧ w'.cell? ⟨Q, 2, none⟩ = some (.int .i64 c.dflt) ∧ w'.cell? ⟨Q + 1, 0, none⟩ = some (.int .i64 ((e : Int) + 1)) ∧ w'.cell? ⟨Q + 1, 1, none⟩ = some (.int .i64 (n : Int)) ∧ w'.cell? ⟨Q + 1, 2, none⟩ = some (.int .i64 (e : Int)) ∧ w'.cell? ⟨Q + 1, 3, none⟩ = some (.int .i64 0) ∧ w'.cell? ⟨Q + 1, 4, none⟩ = some (.int .i64 0)) ∧ Below W5.heap.size W5 w') := ⟨fun W hW =>
    (refFits_any c HCK.out none 0 0 h false 0 c.dflt e n N en W HF.out.1 HF.out.2.1 HF.out.2.2.1 (fun hx => by cases hx) HF.out.2.2.2.1 HF.out.2.2.2.2.1 HF.out.2.2.2.2.2 (by omega)).mono fun x w' k => ⟨k.1, KSS w' (beyond hW k.2), beyond hW k.2⟩⟩
  have hm0 : Below W5.heap.size W5 W5.drew := (Below.refl _ _).drew
  have HS0 := Sd.mk (KSS W5.drew hm0)
  have HZ := Sd.mk (beyond HB.out (beyond HB2.out z5))
  have hq := eqVd c.dflt
  have hgd := guardV
  clear kc kh KSS x5 y5 z5 hW5 hb4 b0 b1 b2 b3 b4
  go_region_held3 (fun W => W.cell? ⟨w.heap.size, 0, none⟩ = some (.int .i64 c.max) ∧ W.cell? ⟨w.heap.size, 1, none⟩ = some (.int .i64 c.dflt) ∧ W.cell? ⟨w.heap.size, 2, none⟩ = some (.int .i64 c.prune) ∧ W.cell? ⟨w.heap.size, 3, none⟩ = some (.int .i64 c.grid) ∧ W.cell? ⟨w.heap.size, 4, none⟩ = some (.int .i64 c.tuple) ∧ W.cell? ⟨w.heap.size, 5, none⟩ = some (.int .i64 c.binth) ∧ W.cell? ⟨w.heap.size, 6, none⟩ = some (.int .i64 c.depth) ∧ W.cell? ⟨w.heap.size + 1, 0, none⟩ = some (.int .u32 h.src) ∧ W.cell? ⟨w.heap.size + 1, 1, none⟩ = some (.int .u32 h.dst) ∧ W.cell? ⟨w.heap.size + 1, 2, none⟩ = some (.int .u16 h.sp) ∧ W.cell? ⟨w.heap.size + 1, 3, none⟩ = some (.int .u16 h.dp) ∧ W.cell? ⟨w.heap.size + 1, 4, none⟩ = some (.int .u8 h.pr) ∧ W.cell? ⟨Q, 0, none⟩ = some (.bool false) ∧ W.cell? ⟨Q, 1, none⟩ = some (.int .i64 0) ∧ W.cell? ⟨Q, 2, none⟩ = some (.int .i64 c.dflt) ∧ W.cell? ⟨Q + 1, 0, none⟩ = some (.int .i64 ((e : Int) + 1)) ∧ W.cell? ⟨Q + 1, 1, none⟩ = some (.int .i64 (n : Int)) ∧ W.cell? ⟨Q + 1, 2, none⟩ = some (.int .i64 (e : Int)) ∧ W.cell? ⟨Q + 1, 3, none⟩ = some (.int .i64 0) ∧ W.cell? ⟨Q + 1, 4, none⟩ = some (.int .i64 0))
    (first | (with_reducible assumption) | (with_reducible exact HS0.out))
    (first | (go_at_call 11; with_reducible refine (HAW.out _ hm0).mono ?_; rintro x w6 ⟨rfl, hs1, hm1⟩) | (go_at_call 14; with_reducible refine (HST.out _ hm1).mono ?_; rintro x w7 ⟨rfl, hs2, hm2⟩) | (go_at_call 13; with_reducible refine (HFT.out _ hm2).mono ?_; rintro x w8 ⟨rfl, hs3, hm3⟩))
  all_goals
    go_wp2_with fail
    go_ret
    exact ⟨rfl, HZ.out.trans (hm3.mono HZ.out.size)⟩
theorem lawNew_any (c : Cfg) (h : Hdr) (hh : h.Wf) (w : World) : Calls Try.prog 3 #[.agg #[.int .i64 c.max, .int .i64 c.dflt, .int .i64 c.prune, .int .i64 c.grid, .int .i64 c.tuple, .int .i64 c.binth, .int .i64 c.depth], .agg #[.int .u32 h.src, .int .u32 h.dst, .int .u16 h.sp, .int .u16 h.dp, .int .u8 h.pr]] w fun e w' => e = .returned (.bool true) ∧ Below w.heap.size w w' := by
  rcases c.ck_cases with hc | hc
  · exact lawNew_ok c h hh hc w
  · exact lawNew_no c h hc w
end Go.Proofs.Ytljliopmphaoeaa
