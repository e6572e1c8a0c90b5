/- The cuts of a box by an address. -/
import Derived.Test.YtljliopmphaoeaaW1
import Derived.BigRegion
namespace Go.Proofs.Ytljliopmphaoeaa
open Go Go.RowKit Go.Proofs.Ytljliopmphaoeaa.Q

/-- five blocks of one type, one behind the other -/
def CutB (W : World) (N : Nat) (c0 c1 c2 c3 c4 : Array Value) (T : TypeId) : Prop := Blk W N c0 T ∧ Blk W (N + 1) c1 T ∧ Blk W (N + 1 + 1) c2 T ∧ Blk W (N + 1 + 1 + 1) c3 T ∧ Blk W (N + 1 + 1 + 1 + 1) c4 T
theorem five (w : World) (c0 c1 c2 c3 c4 : Array Value) (T : TypeId) (M : World) (hM : ((((w.alloc (.cells c0 T)).alloc (.cells c1 T)).alloc (.cells c2 T)).alloc (.cells c3 T)).alloc (.cells c4 T) = M) :
    CutB M w.heap.size c0 c1 c2 c3 c4 T ∧ Below w.heap.size w M ∧ M.heap.size = w.heap.size + 1 + 1 + 1 + 1 + 1 := by
  subst hM
  refine ⟨⟨?_, ?_, ?_, ?_, ?_⟩, ?_, by simp⟩
  · exact ((((Blk.new w c0 T).alloc _).alloc _).alloc _).alloc _
  · exact (((blkN (X := w.alloc (.cells c0 T)) (N := w.heap.size + 1) (by simp) c1 T).alloc _).alloc _).alloc _
  · exact ((blkN (X := (w.alloc (.cells c0 T)).alloc (.cells c1 T)) (N := w.heap.size + 1 + 1) (by simp) c2 T).alloc _).alloc _
  · exact (blkN (X := ((w.alloc (.cells c0 T)).alloc (.cells c1 T)).alloc (.cells c2 T)) (N := w.heap.size + 1 + 1 + 1) (by simp) c3 T).alloc _
  · exact blkN (X := (((w.alloc (.cells c0 T)).alloc (.cells c1 T)).alloc (.cells c2 T)).alloc (.cells c3 T)) (N := w.heap.size + 1 + 1 + 1 + 1) (by simp) c4 T
  · exact below_alloc (below_alloc (below_alloc (below_alloc (below_alloc (Below.refl _ _) _) _) _) _) _
theorem fill2 {W V' : World} {g1 g2 : Nat} {T : TypeId} {u0 u1 u2 u3 u4 u5 u6 u7 u8 u9 v0 v1 v2 v3 v4 v5 v6 v7 v8 v9 y0 y1 y2 y3 y4 y5 y6 y7 y8 y9 x0 x1 x2 x3 x4 x5 x6 x7 x8 x9 : Value} (h1 : Blk W g1 #[y0, y1, y2, y3, y4, y5, y6, y7, y8, y9] T) (h2 : Blk W g2 #[x0, x1, x2, x3, x4, x5, x6, x7, x8, x9] T) (hne : g1 ≠ g2) (hV : ((((((((((((((((((((W.setCell ⟨g1, 0, none⟩ (u0)).setCell ⟨g1, 1, none⟩ (u1)).setCell ⟨g1, 2, none⟩ (u2)).setCell ⟨g1, 3, none⟩ (u3)).setCell ⟨g1, 4, none⟩ (u4)).setCell ⟨g1, 5, none⟩ (u5)).setCell ⟨g1, 6, none⟩ (u6)).setCell ⟨g1, 7, none⟩ (u7)).setCell ⟨g1, 8, none⟩ (u8)).setCell ⟨g1, 9, none⟩ (u9)).setCell ⟨g2, 0, none⟩ (v0)).setCell ⟨g2, 1, none⟩ (v1)).setCell ⟨g2, 2, none⟩ (v2)).setCell ⟨g2, 3, none⟩ (v3)).setCell ⟨g2, 4, none⟩ (v4)).setCell ⟨g2, 5, none⟩ (v5)).setCell ⟨g2, 6, none⟩ (v6)).setCell ⟨g2, 7, none⟩ (v7)).setCell ⟨g2, 8, none⟩ (v8)).setCell ⟨g2, 9, none⟩ (v9)).drew = V') :
    Blk V' g1 #[u0, u1, u2, u3, u4, u5, u6, u7, u8, u9] T ∧ Blk V' g2 #[v0, v1, v2, v3, v4, v5, v6, v7, v8, v9] T ∧ Only W V' (fun k => k = g1 ∨ k = g2) := by
  subst hV
  have k1 := fillB (u0 := u0) (u1 := u1) (u2 := u2) (u3 := u3) (u4 := u4) (u5 := u5) (u6 := u6) (u7 := u7) (u8 := u8) (u9 := u9) h1
  have k2 : Blk ((((((((((W.setCell ⟨g1, 0, none⟩ (u0)).setCell ⟨g1, 1, none⟩ (u1)).setCell ⟨g1, 2, none⟩ (u2)).setCell ⟨g1, 3, none⟩ (u3)).setCell ⟨g1, 4, none⟩ (u4)).setCell ⟨g1, 5, none⟩ (u5)).setCell ⟨g1, 6, none⟩ (u6)).setCell ⟨g1, 7, none⟩ (u7)).setCell ⟨g1, 8, none⟩ (u8)).setCell ⟨g1, 9, none⟩ (u9)) g2 #[x0, x1, x2, x3, x4, x5, x6, x7, x8, x9] T := by
    iterate 10 refine Blk.other ?_ _ hne.symm
    exact h2
  refine ⟨?_, ?_, ?_⟩
  · refine Blk.drew ?_
    iterate 10 refine Blk.other ?_ _ hne
    exact k1
  · exact Blk.drew (fillB k2)
  · refine Only.drew ?_
    iterate 10 refine Only.setCell ?_ _ _ (fun _ => .inr rfl)
    iterate 10 refine Only.setCell ?_ _ _ (fun _ => .inl rfl)
    exact Only.refl _ _
set_option maxHeartbeats 2000000 in
set_option maxRecDepth 100000 in
theorem cut0_no (b : Bx) (F O : Nat) (w : World) (hF : w.cell? ⟨F, 0, none⟩ = some (.func (.func 69) #[] #[])) (he : b.src.lo = b.src.hi) :
    Calls Try.prog 91 #[.agg #[.int .u32 b.src.lo, .int .u32 b.src.hi, .int .u32 b.dst.lo, .int .u32 b.dst.hi, .int .u16 b.sp.lo, .int .u16 b.sp.hi, .int .u16 b.dp.lo, .int .u16 b.dp.hi, .int .u8 b.pr.v, .int .u8 b.pr.c], .pointer (some ⟨F, 0, none⟩), .pointer (some ⟨O, 0, none⟩)] w fun e w' => e = .returned (.tuple #[.agg #[.int .u32 b.src.lo, .int .u32 b.src.hi, .int .u32 b.dst.lo, .int .u32 b.dst.hi, .int .u16 b.sp.lo, .int .u16 b.sp.hi, .int .u16 b.dp.lo, .int .u16 b.dp.hi, .int .u8 b.pr.v, .int .u8 b.pr.c], .agg #[.int .u32 b.src.lo, .int .u32 b.src.hi, .int .u32 b.dst.lo, .int .u32 b.dst.hi, .int .u16 b.sp.lo, .int .u16 b.sp.hi, .int .u16 b.dp.lo, .int .u16 b.dp.hi, .int .u8 b.pr.v, .int .u8 b.pr.c], .nilFunc, .bool false]) ∧ Below w.heap.size w w' := by
  have ht : ((b.src.lo : Int) == (b.src.hi : Int)) = true := by simp [he]
  clear he
  obtain ⟨M, hM⟩ : ∃ M, ((((w.alloc (.cells #[.int .u32 b.src.lo, .int .u32 b.src.hi, .int .u32 b.dst.lo, .int .u32 b.dst.hi, .int .u16 b.sp.lo, .int .u16 b.sp.hi, .int .u16 b.dp.lo, .int .u16 b.dp.hi, .int .u8 b.pr.v, .int .u8 b.pr.c] 109)).alloc (.cells #[.int .u32 0, .int .u32 0, .int .u32 0, .int .u32 0, .int .u16 0, .int .u16 0, .int .u16 0, .int .u16 0, .int .u8 0, .int .u8 0] 109)).alloc (.cells #[.int .u32 0, .int .u32 0, .int .u32 0, .int .u32 0, .int .u16 0, .int .u16 0, .int .u16 0, .int .u16 0, .int .u8 0, .int .u8 0] 109)).alloc (.cells #[.int .u32 b.src.lo, .int .u32 b.src.hi, .int .u32 b.dst.lo, .int .u32 b.dst.hi, .int .u16 b.sp.lo, .int .u16 b.sp.hi, .int .u16 b.dp.lo, .int .u16 b.dp.hi, .int .u8 b.pr.v, .int .u8 b.pr.c] 109)).alloc (.cells #[.int .u32 b.src.lo, .int .u32 b.src.hi, .int .u32 b.dst.lo, .int .u32 b.dst.hi, .int .u16 b.sp.lo, .int .u16 b.sp.hi, .int .u16 b.dp.lo, .int .u16 b.dp.hi, .int .u8 b.pr.v, .int .u8 b.pr.c] 109) = M := ⟨_, rfl⟩
  obtain ⟨hfv, hbw, hsz⟩ := five _ _ _ _ _ _ _ _ hM
  obtain ⟨L, hL⟩ : ∃ L, w.heap.size = L := ⟨_, rfl⟩
  rw [hL] at hfv hbw hsz
  have HM := Sd.mk hM
  have HL := Sd.mk hL
  have hFM := (hbw.cell (by rw [← hL]; exact World.block_lt_of_cell? w _ hF)).trans hF
  have HFL : Sd (F < L) := ⟨by rw [← hL]; exact World.block_lt_of_cell? w _ hF⟩
  have H1 := Sd.mk (fun g W => field0_any g W)
  have HB := Sd.mk (And.intro hbw (And.intro hsz hfv))
  clear hM hF hsz hbw
  go_enter Try.func91, Try.ntmps91
  go_upto_region 2 with fail
  rw [HM.out]
  try rw [HL.out]
  have hb0 := hfv.1
  obtain ⟨c0, c1, c2, c3, c4, c5, c6, c7, c8, c9⟩ := show M.cell? ⟨L, 0, none⟩ = some (.int .u32 b.src.lo) ∧ M.cell? ⟨L, 1, none⟩ = some (.int .u32 b.src.hi) ∧ M.cell? ⟨L, 2, none⟩ = some (.int .u32 b.dst.lo) ∧ M.cell? ⟨L, 3, none⟩ = some (.int .u32 b.dst.hi) ∧ M.cell? ⟨L, 4, none⟩ = some (.int .u16 b.sp.lo) ∧ M.cell? ⟨L, 5, none⟩ = some (.int .u16 b.sp.hi) ∧ M.cell? ⟨L, 6, none⟩ = some (.int .u16 b.dp.lo) ∧ M.cell? ⟨L, 7, none⟩ = some (.int .u16 b.dp.hi) ∧ M.cell? ⟨L, 8, none⟩ = some (.int .u8 b.pr.v) ∧ M.cell? ⟨L, 9, none⟩ = some (.int .u8 b.pr.c) from ⟨hb0.cell (i := 0) rfl, hb0.cell (i := 1) rfl, hb0.cell (i := 2) rfl, hb0.cell (i := 3) rfl, hb0.cell (i := 4) rfl, hb0.cell (i := 5) rfl, hb0.cell (i := 6) rfl, hb0.cell (i := 7) rfl, hb0.cell (i := 8) rfl, hb0.cell (i := 9) rfl⟩
  have hlF := World.block_lt_of_cell? M _ hFM
  have hl0 := hb0.lt
  simp only [] at hlF
  clear hb0 hfv hL
  go_wp2_with fail
  refine (H1.out _ _).mono ?_
  rintro e w1 ⟨rfl, rfl⟩
  go_upto_region 4 with fail
  obtain ⟨W0, hW0⟩ : ∃ W0, M.alloc (.cells #[.int .u32 b.src.lo, .int .u32 b.src.hi] 107) = W0 := ⟨_, rfl⟩
  have hbW : Below M.heap.size M W0 := by rw [← hW0]; exact (Below.refl _ _).alloc (Nat.le_refl _) _
  obtain ⟨hbw, hsz, h0, h1, h2, _⟩ := HB.out
  have hB0 := h0.below hbW h0.lt
  have hB1 := h1.below hbW h1.lt
  have hB2 := h2.below hbW h2.lt
  have HW := Sd.mk (And.intro (show Below L w W0 from hbw.trans (hbW.mono (by omega))) (And.intro hB1 hB2))
  rw [hW0]
  clear c0 c1 c2 c3 c4 c5 c6 c7 c8 c9 hW0 h0 h1 h2 hbw hsz
  obtain ⟨c0, c1, c2, c3, c4, c5, c6, c7, c8, c9⟩ := show W0.cell? ⟨L, 0, none⟩ = some (.int .u32 b.src.lo) ∧ W0.cell? ⟨L, 1, none⟩ = some (.int .u32 b.src.hi) ∧ W0.cell? ⟨L, 2, none⟩ = some (.int .u32 b.dst.lo) ∧ W0.cell? ⟨L, 3, none⟩ = some (.int .u32 b.dst.hi) ∧ W0.cell? ⟨L, 4, none⟩ = some (.int .u16 b.sp.lo) ∧ W0.cell? ⟨L, 5, none⟩ = some (.int .u16 b.sp.hi) ∧ W0.cell? ⟨L, 6, none⟩ = some (.int .u16 b.dp.lo) ∧ W0.cell? ⟨L, 7, none⟩ = some (.int .u16 b.dp.hi) ∧ W0.cell? ⟨L, 8, none⟩ = some (.int .u8 b.pr.v) ∧ W0.cell? ⟨L, 9, none⟩ = some (.int .u8 b.pr.c) from ⟨hB0.cell (i := 0) rfl, hB0.cell (i := 1) rfl, hB0.cell (i := 2) rfl, hB0.cell (i := 3) rfl, hB0.cell (i := 4) rfl, hB0.cell (i := 5) rfl, hB0.cell (i := 6) rfl, hB0.cell (i := 7) rfl, hB0.cell (i := 8) rfl, hB0.cell (i := 9) rfl⟩
  have g1 := hB1.at
  have g2 := hB2.at
  have f1 := hB1.frozen
  have f2 := hB2.frozen
  have l0 := hB0.lt
  have l1 := hB1.lt
  have l2 := hB2.lt
  clear hbW hB0 hB1 hB2
  go_region
  clear c0 c1 c2 c3 c4 c5 c6 c7 c8 c9 g1 g2 f1 f2 l0 l1 l2
  obtain ⟨V', hV⟩ : ∃ V', ((((((((((((((((((((W0.setCell ⟨L + 1, 0, none⟩ (.int .u32 b.src.lo)).setCell ⟨L + 1, 1, none⟩ (.int .u32 b.src.hi)).setCell ⟨L + 1, 2, none⟩ (.int .u32 b.dst.lo)).setCell ⟨L + 1, 3, none⟩ (.int .u32 b.dst.hi)).setCell ⟨L + 1, 4, none⟩ (.int .u16 b.sp.lo)).setCell ⟨L + 1, 5, none⟩ (.int .u16 b.sp.hi)).setCell ⟨L + 1, 6, none⟩ (.int .u16 b.dp.lo)).setCell ⟨L + 1, 7, none⟩ (.int .u16 b.dp.hi)).setCell ⟨L + 1, 8, none⟩ (.int .u8 b.pr.v)).setCell ⟨L + 1, 9, none⟩ (.int .u8 b.pr.c)).setCell ⟨L + 1 + 1, 0, none⟩ (.int .u32 b.src.lo)).setCell ⟨L + 1 + 1, 1, none⟩ (.int .u32 b.src.hi)).setCell ⟨L + 1 + 1, 2, none⟩ (.int .u32 b.dst.lo)).setCell ⟨L + 1 + 1, 3, none⟩ (.int .u32 b.dst.hi)).setCell ⟨L + 1 + 1, 4, none⟩ (.int .u16 b.sp.lo)).setCell ⟨L + 1 + 1, 5, none⟩ (.int .u16 b.sp.hi)).setCell ⟨L + 1 + 1, 6, none⟩ (.int .u16 b.dp.lo)).setCell ⟨L + 1 + 1, 7, none⟩ (.int .u16 b.dp.hi)).setCell ⟨L + 1 + 1, 8, none⟩ (.int .u8 b.pr.v)).setCell ⟨L + 1 + 1, 9, none⟩ (.int .u8 b.pr.c)).drew = V' := ⟨_, rfl⟩
  obtain ⟨k1, k2, ho⟩ := fill2 HW.out.2.1 HW.out.2.2 (by omega) hV
  rw [hV]
  have HO : Sd (Below L w V') := ⟨HW.out.1.trans (ho.below L (by rw [← HL.out]; exact HW.out.1.size) (fun k hk => by omega))⟩
  obtain ⟨c0, c1, c2, c3, c4, c5, c6, c7, c8, c9⟩ := show V'.cell? ⟨L + 1, 0, none⟩ = some (.int .u32 b.src.lo) ∧ V'.cell? ⟨L + 1, 1, none⟩ = some (.int .u32 b.src.hi) ∧ V'.cell? ⟨L + 1, 2, none⟩ = some (.int .u32 b.dst.lo) ∧ V'.cell? ⟨L + 1, 3, none⟩ = some (.int .u32 b.dst.hi) ∧ V'.cell? ⟨L + 1, 4, none⟩ = some (.int .u16 b.sp.lo) ∧ V'.cell? ⟨L + 1, 5, none⟩ = some (.int .u16 b.sp.hi) ∧ V'.cell? ⟨L + 1, 6, none⟩ = some (.int .u16 b.dp.lo) ∧ V'.cell? ⟨L + 1, 7, none⟩ = some (.int .u16 b.dp.hi) ∧ V'.cell? ⟨L + 1, 8, none⟩ = some (.int .u8 b.pr.v) ∧ V'.cell? ⟨L + 1, 9, none⟩ = some (.int .u8 b.pr.c) from ⟨k1.cell (i := 0) rfl, k1.cell (i := 1) rfl, k1.cell (i := 2) rfl, k1.cell (i := 3) rfl, k1.cell (i := 4) rfl, k1.cell (i := 5) rfl, k1.cell (i := 6) rfl, k1.cell (i := 7) rfl, k1.cell (i := 8) rfl, k1.cell (i := 9) rfl⟩
  obtain ⟨d0, d1, d2, d3, d4, d5, d6, d7, d8, d9⟩ := show V'.cell? ⟨L + 1 + 1, 0, none⟩ = some (.int .u32 b.src.lo) ∧ V'.cell? ⟨L + 1 + 1, 1, none⟩ = some (.int .u32 b.src.hi) ∧ V'.cell? ⟨L + 1 + 1, 2, none⟩ = some (.int .u32 b.dst.lo) ∧ V'.cell? ⟨L + 1 + 1, 3, none⟩ = some (.int .u32 b.dst.hi) ∧ V'.cell? ⟨L + 1 + 1, 4, none⟩ = some (.int .u16 b.sp.lo) ∧ V'.cell? ⟨L + 1 + 1, 5, none⟩ = some (.int .u16 b.sp.hi) ∧ V'.cell? ⟨L + 1 + 1, 6, none⟩ = some (.int .u16 b.dp.lo) ∧ V'.cell? ⟨L + 1 + 1, 7, none⟩ = some (.int .u16 b.dp.hi) ∧ V'.cell? ⟨L + 1 + 1, 8, none⟩ = some (.int .u8 b.pr.v) ∧ V'.cell? ⟨L + 1 + 1, 9, none⟩ = some (.int .u8 b.pr.c) from ⟨k2.cell (i := 0) rfl, k2.cell (i := 1) rfl, k2.cell (i := 2) rfl, k2.cell (i := 3) rfl, k2.cell (i := 4) rfl, k2.cell (i := 5) rfl, k2.cell (i := 6) rfl, k2.cell (i := 7) rfl, k2.cell (i := 8) rfl, k2.cell (i := 9) rfl⟩
  clear k1 k2 ho hV
  go_wp2
  refine bodyPost_ret (v := .tuple #[.agg #[.int .u32 b.src.lo, .int .u32 b.src.hi, .int .u32 b.dst.lo, .int .u32 b.dst.hi, .int .u16 b.sp.lo, .int .u16 b.sp.hi, .int .u16 b.dp.lo, .int .u16 b.dp.hi, .int .u8 b.pr.v, .int .u8 b.pr.c], .agg #[.int .u32 b.src.lo, .int .u32 b.src.hi, .int .u32 b.dst.lo, .int .u32 b.dst.hi, .int .u16 b.sp.lo, .int .u16 b.sp.hi, .int .u16 b.dp.lo, .int .u16 b.dp.hi, .int .u8 b.pr.v, .int .u8 b.pr.c], .nilFunc, .bool false]) (by simp [results, Try.results91, go_sem, *]) rfl ⟨rfl, by rw [HL.out]; exact HO.out⟩
set_option maxHeartbeats 2000000 in
set_option maxRecDepth 100000 in
theorem cut0_ok (b : Bx) (F O mid m1 : Nat) (w : World) (hF : w.cell? ⟨F, 0, none⟩ = some (.func (.func 69) #[] #[])) (he : b.src.lo < b.src.hi) (hh : b.src.hi < 4294967296) (hm : mid = b.src.lo + (b.src.hi - b.src.lo) / 2) (hm1 : m1 = mid + 1) :
    Calls Try.prog 91 #[.agg #[.int .u32 b.src.lo, .int .u32 b.src.hi, .int .u32 b.dst.lo, .int .u32 b.dst.hi, .int .u16 b.sp.lo, .int .u16 b.sp.hi, .int .u16 b.dp.lo, .int .u16 b.dp.hi, .int .u8 b.pr.v, .int .u8 b.pr.c], .pointer (some ⟨F, 0, none⟩), .pointer (some ⟨O, 0, none⟩)] w fun e w' => ∃ T, e = .returned (.tuple #[.agg #[.int .u32 b.src.lo, .int .u32 (mid : Int), .int .u32 b.dst.lo, .int .u32 b.dst.hi, .int .u16 b.sp.lo, .int .u16 b.sp.hi, .int .u16 b.dp.lo, .int .u16 b.dp.hi, .int .u8 b.pr.v, .int .u8 b.pr.c], .agg #[.int .u32 (m1 : Int), .int .u32 b.src.hi, .int .u32 b.dst.lo, .int .u32 b.dst.hi, .int .u16 b.sp.lo, .int .u16 b.sp.hi, .int .u16 b.dp.lo, .int .u16 b.dp.hi, .int .u8 b.pr.v, .int .u8 b.pr.c], .func (.func 92) #[] #[.pointer (some ⟨O, 0, none⟩), .pointer (some ⟨T, 0, none⟩)], .bool true]) ∧ w.heap.size ≤ T ∧ Blk w' T #[.int .u32 (mid : Int)] 25 ∧ Below w.heap.size w w' := by
  have ht : ((b.src.lo : Int) == (b.src.hi : Int)) = false := by rw [beq_eq_false_iff_ne]; omega
  have EM : Sd (((b.src.lo : Int) + ((b.src.hi : Int) - (b.src.lo : Int)) / 2) = (mid : Int)) := ⟨by omega⟩
  have HMI : Sd (mid < b.src.hi) := ⟨by omega⟩
  have EM1 : Sd (IntKind.u32.wrap ((mid : Int) + 1) = (m1 : Int)) := ⟨by rw [IntKind.wrap_u32]; omega⟩
  clear hm hm1
  obtain ⟨M, hM⟩ : ∃ M, ((((w.alloc (.cells #[.int .u32 b.src.lo, .int .u32 b.src.hi, .int .u32 b.dst.lo, .int .u32 b.dst.hi, .int .u16 b.sp.lo, .int .u16 b.sp.hi, .int .u16 b.dp.lo, .int .u16 b.dp.hi, .int .u8 b.pr.v, .int .u8 b.pr.c] 109)).alloc (.cells #[.int .u32 0, .int .u32 0, .int .u32 0, .int .u32 0, .int .u16 0, .int .u16 0, .int .u16 0, .int .u16 0, .int .u8 0, .int .u8 0] 109)).alloc (.cells #[.int .u32 0, .int .u32 0, .int .u32 0, .int .u32 0, .int .u16 0, .int .u16 0, .int .u16 0, .int .u16 0, .int .u8 0, .int .u8 0] 109)).alloc (.cells #[.int .u32 b.src.lo, .int .u32 b.src.hi, .int .u32 b.dst.lo, .int .u32 b.dst.hi, .int .u16 b.sp.lo, .int .u16 b.sp.hi, .int .u16 b.dp.lo, .int .u16 b.dp.hi, .int .u8 b.pr.v, .int .u8 b.pr.c] 109)).alloc (.cells #[.int .u32 b.src.lo, .int .u32 b.src.hi, .int .u32 b.dst.lo, .int .u32 b.dst.hi, .int .u16 b.sp.lo, .int .u16 b.sp.hi, .int .u16 b.dp.lo, .int .u16 b.dp.hi, .int .u8 b.pr.v, .int .u8 b.pr.c] 109) = M := ⟨_, rfl⟩
  obtain ⟨hfv, hbw, hsz⟩ := five _ _ _ _ _ _ _ _ hM
  obtain ⟨L, hL⟩ : ∃ L, w.heap.size = L := ⟨_, rfl⟩
  rw [hL] at hfv hbw hsz
  have HM := Sd.mk hM
  have HL := Sd.mk hL
  have hFM := (hbw.cell (by rw [← hL]; exact World.block_lt_of_cell? w _ hF)).trans hF
  have HFL : Sd (F < L) := ⟨by rw [← hL]; exact World.block_lt_of_cell? w _ hF⟩
  have H1 := Sd.mk (fun g W => field0_any g W)
  have HB := Sd.mk (And.intro hbw (And.intro hsz hfv))
  clear hM hF hsz hbw
  go_enter Try.func91, Try.ntmps91
  go_upto_region 2 with fail
  rw [HM.out]
  try rw [HL.out]
  have hb0 := hfv.1
  obtain ⟨c0, c1, c2, c3, c4, c5, c6, c7, c8, c9⟩ := show M.cell? ⟨L, 0, none⟩ = some (.int .u32 b.src.lo) ∧ M.cell? ⟨L, 1, none⟩ = some (.int .u32 b.src.hi) ∧ M.cell? ⟨L, 2, none⟩ = some (.int .u32 b.dst.lo) ∧ M.cell? ⟨L, 3, none⟩ = some (.int .u32 b.dst.hi) ∧ M.cell? ⟨L, 4, none⟩ = some (.int .u16 b.sp.lo) ∧ M.cell? ⟨L, 5, none⟩ = some (.int .u16 b.sp.hi) ∧ M.cell? ⟨L, 6, none⟩ = some (.int .u16 b.dp.lo) ∧ M.cell? ⟨L, 7, none⟩ = some (.int .u16 b.dp.hi) ∧ M.cell? ⟨L, 8, none⟩ = some (.int .u8 b.pr.v) ∧ M.cell? ⟨L, 9, none⟩ = some (.int .u8 b.pr.c) from ⟨hb0.cell (i := 0) rfl, hb0.cell (i := 1) rfl, hb0.cell (i := 2) rfl, hb0.cell (i := 3) rfl, hb0.cell (i := 4) rfl, hb0.cell (i := 5) rfl, hb0.cell (i := 6) rfl, hb0.cell (i := 7) rfl, hb0.cell (i := 8) rfl, hb0.cell (i := 9) rfl⟩
  have hlF := World.block_lt_of_cell? M _ hFM
  have hl0 := hb0.lt
  simp only [] at hlF
  clear hb0 hfv hL
  go_wp2_with fail
  refine (H1.out _ _).mono ?_
  rintro e w1 ⟨rfl, rfl⟩
  go_upto_region 6 with fail
  rw [EM.out]
  obtain ⟨T, hT⟩ : ∃ T, M.heap.size + 1 = T := ⟨_, rfl⟩
  rw [hT]
  obtain ⟨W0, hW0⟩ : ∃ W0, (M.alloc (.cells #[.int .u32 b.src.lo, .int .u32 b.src.hi] 107)).alloc (.cells #[.int .u32 (mid : Int)] 25) = W0 := ⟨_, rfl⟩
  have hbW : Below M.heap.size M W0 := by rw [← hW0]; exact below_alloc (below_alloc (Below.refl _ _) _) _
  have hTb : Blk W0 T #[.int .u32 (mid : Int)] 25 := by rw [← hW0]; exact blkN (by simp [hT]) _ _
  obtain ⟨hbw, hsz, h0, h1, h2, h3, h4⟩ := HB.out
  have hF0 := (hbW.cell hlF).trans hFM
  have HS : Sd (Blk W0 (L + 1) _ _ ∧ Blk W0 (L + 1 + 1) _ _ ∧ Blk W0 (L + 1 + 1 + 1) _ _ ∧ Blk W0 (L + 1 + 1 + 1 + 1) _ _ ∧ Blk W0 T _ _) := ⟨⟨h1.below hbW h1.lt, h2.below hbW h2.lt, h3.below hbW h3.lt, h4.below hbW h4.lt, hTb⟩⟩
  have HW0 : Sd (Below L w W0) := ⟨hbw.trans (hbW.mono (by omega))⟩
  have HT : Sd (L + 1 + 1 + 1 + 1 < T) := ⟨by omega⟩
  rw [hW0]
  clear c0 c1 c2 c3 c4 c5 c6 c7 c8 c9 hW0 h0 h1 h2 h3 h4 hbw hsz hbW hTb hFM hlF hl0 hT
  have tc := HS.out.2.2.2.2.cell (i := 0) rfl
  have f3 := HS.out.2.2.1.frozen
  have l3 := HS.out.2.2.1.lt
  have a3 := HS.out.2.2.1.at
  refine wp_region_still_tail 5 (by kernel_rfl) (by kernel_rfl) ?_
  change wpStill _ _ W0.drew _ _ _
  simp only [List.take_succ_cons, List.take_zero, List.drop_succ_cons, List.drop_zero]
  repeat still_step
  still_call ((H1.out _ _).mono fun _ _ h => ⟨h.1, h.2.symm⟩)
  repeat still_step
  refine wpStill_nil ?_
  change wpList _ _ _ _ _ W0.drew
  go_upto_region 7 with fail
  obtain ⟨W1, hW1⟩ : ∃ W1, (W0.setCell ⟨L + 1 + 1 + 1, 1, none⟩ (.int .u32 (mid : Int))).drew = W1 := ⟨_, rfl⟩
  have ho1 : Only W0 W1 (fun k => k = L + 1 + 1 + 1) := by rw [← hW1]; exact Only.drew (Only.setCell (Only.refl W0 (fun k => k = L + 1 + 1 + 1)) ⟨L + 1 + 1 + 1, 1, none⟩ _ (fun _ => rfl))
  have k3 := (HS.out.2.2.1.set 1 (.int .u32 (mid : Int))).drew
  rw [hW1] at k3
  simp only [List.setIfInBounds_toArray, List.set_cons_zero, List.set_cons_succ] at k3
  have hF1 : W1.cell? ⟨F, 0, none⟩ = some (.func (.func 69) #[] #[]) := (World.cell?_of_block (a := ⟨F, 0, none⟩) (ho1.block F (World.block_lt_of_cell? W0 _ hF0) (by have := HFL.out; show ¬ F = _; omega))).trans hF0
  have HS1 : Sd (Blk W1 (L + 1) _ _ ∧ Blk W1 (L + 1 + 1) _ _ ∧ Blk W1 (L + 1 + 1 + 1) _ _ ∧ Blk W1 (L + 1 + 1 + 1 + 1) _ _ ∧ Blk W1 T _ _) := ⟨⟨HS.out.1.only ho1 (by omega), HS.out.2.1.only ho1 (by omega), k3, HS.out.2.2.2.1.only ho1 (by omega), HS.out.2.2.2.2.only ho1 (by have := HT.out; omega)⟩⟩
  have HW1 : Sd (Below L w W1) := ⟨HW0.out.trans (ho1.below L (by rw [← HL.out]; exact HW0.out.size) (fun k hk => by omega))⟩
  rw [hW1]
  clear tc f3 l3 a3 hF0 hW1 k3 HS HW0 ho1
  have tc := HS1.out.2.2.2.2.cell (i := 0) rfl
  have f4 := HS1.out.2.2.2.1.frozen
  have l4 := HS1.out.2.2.2.1.lt
  have a4 := HS1.out.2.2.2.1.at
  refine wp_region_still_tail 6 (by kernel_rfl) (by kernel_rfl) ?_
  change wpStill _ _ W1.drew _ _ _
  simp only [List.take_succ_cons, List.take_zero, List.drop_succ_cons, List.drop_zero]
  repeat still_step
  still_call ((H1.out _ _).mono fun _ _ h => ⟨h.1, h.2.symm⟩)
  repeat still_step
  rw [EM1.out]
  repeat still_step
  refine wpStill_nil ?_
  change wpList _ _ _ _ _ W1.drew
  go_upto_region 8 with fail
  obtain ⟨W2, hW2⟩ : ∃ W2, (W1.setCell ⟨L + 1 + 1 + 1 + 1, 0, none⟩ (.int .u32 (m1 : Int))).drew = W2 := ⟨_, rfl⟩
  have ho2 : Only W1 W2 (fun k => k = L + 1 + 1 + 1 + 1) := by rw [← hW2]; exact Only.drew (Only.setCell (Only.refl W1 (fun k => k = L + 1 + 1 + 1 + 1)) ⟨L + 1 + 1 + 1 + 1, 0, none⟩ _ (fun _ => rfl))
  have k4 := (HS1.out.2.2.2.1.set 0 (.int .u32 (m1 : Int))).drew
  rw [hW2] at k4
  simp only [List.setIfInBounds_toArray, List.set_cons_zero] at k4
  have k3 := HS1.out.2.2.1.only ho2 (by omega)
  have HS2 := Sd.mk (And.intro (HS1.out.1.only ho2 (by omega)) (And.intro (HS1.out.2.1.only ho2 (by omega)) (HS1.out.2.2.2.2.only ho2 (by have := HT.out; omega))))
  have HW2 : Sd (Below L w W2) := ⟨HW1.out.trans (ho2.below L (by rw [← HL.out]; exact HW1.out.size) (fun k hk => by omega))⟩
  rw [hW2]
  clear tc f4 l4 a4 hF1 hW2 HS1 HW1 ho2
  have p3 := k3.at
  have p4 := k4.at
  have l3 := k3.lt
  have l4 := k4.lt
  have g1 := HS2.out.1.at
  have g2 := HS2.out.2.1.at
  have f1 := HS2.out.1.frozen
  have f2 := HS2.out.2.1.frozen
  have l1 := HS2.out.1.lt
  have l2 := HS2.out.2.1.lt
  clear k3 k4
  go_region
  clear p3 p4 l3 l4 g1 g2 f1 f2 l1 l2
  obtain ⟨V', hV⟩ : ∃ V', ((((((((((((((((((((W2.setCell ⟨L + 1, 0, none⟩ (.int .u32 b.src.lo)).setCell ⟨L + 1, 1, none⟩ (.int .u32 (mid : Int))).setCell ⟨L + 1, 2, none⟩ (.int .u32 b.dst.lo)).setCell ⟨L + 1, 3, none⟩ (.int .u32 b.dst.hi)).setCell ⟨L + 1, 4, none⟩ (.int .u16 b.sp.lo)).setCell ⟨L + 1, 5, none⟩ (.int .u16 b.sp.hi)).setCell ⟨L + 1, 6, none⟩ (.int .u16 b.dp.lo)).setCell ⟨L + 1, 7, none⟩ (.int .u16 b.dp.hi)).setCell ⟨L + 1, 8, none⟩ (.int .u8 b.pr.v)).setCell ⟨L + 1, 9, none⟩ (.int .u8 b.pr.c)).setCell ⟨L + 1 + 1, 0, none⟩ (.int .u32 (m1 : Int))).setCell ⟨L + 1 + 1, 1, none⟩ (.int .u32 b.src.hi)).setCell ⟨L + 1 + 1, 2, none⟩ (.int .u32 b.dst.lo)).setCell ⟨L + 1 + 1, 3, none⟩ (.int .u32 b.dst.hi)).setCell ⟨L + 1 + 1, 4, none⟩ (.int .u16 b.sp.lo)).setCell ⟨L + 1 + 1, 5, none⟩ (.int .u16 b.sp.hi)).setCell ⟨L + 1 + 1, 6, none⟩ (.int .u16 b.dp.lo)).setCell ⟨L + 1 + 1, 7, none⟩ (.int .u16 b.dp.hi)).setCell ⟨L + 1 + 1, 8, none⟩ (.int .u8 b.pr.v)).setCell ⟨L + 1 + 1, 9, none⟩ (.int .u8 b.pr.c)).drew = V' := ⟨_, rfl⟩
  obtain ⟨k1, k2, ho⟩ := fill2 HS2.out.1 HS2.out.2.1 (by omega) hV
  rw [hV]
  have HO : Sd (Below L w V') := ⟨HW2.out.trans (ho.below L (by rw [← HL.out]; exact HW2.out.size) (fun k hk => by omega))⟩
  have HTc := Sd.mk (HS2.out.2.2.only ho (by have := HT.out; omega))
  obtain ⟨c0, c1, c2, c3, c4, c5, c6, c7, c8, c9⟩ := show V'.cell? ⟨L + 1, 0, none⟩ = some (.int .u32 b.src.lo) ∧ V'.cell? ⟨L + 1, 1, none⟩ = some (.int .u32 (mid : Int)) ∧ V'.cell? ⟨L + 1, 2, none⟩ = some (.int .u32 b.dst.lo) ∧ V'.cell? ⟨L + 1, 3, none⟩ = some (.int .u32 b.dst.hi) ∧ V'.cell? ⟨L + 1, 4, none⟩ = some (.int .u16 b.sp.lo) ∧ V'.cell? ⟨L + 1, 5, none⟩ = some (.int .u16 b.sp.hi) ∧ V'.cell? ⟨L + 1, 6, none⟩ = some (.int .u16 b.dp.lo) ∧ V'.cell? ⟨L + 1, 7, none⟩ = some (.int .u16 b.dp.hi) ∧ V'.cell? ⟨L + 1, 8, none⟩ = some (.int .u8 b.pr.v) ∧ V'.cell? ⟨L + 1, 9, none⟩ = some (.int .u8 b.pr.c) from ⟨k1.cell (i := 0) rfl, k1.cell (i := 1) rfl, k1.cell (i := 2) rfl, k1.cell (i := 3) rfl, k1.cell (i := 4) rfl, k1.cell (i := 5) rfl, k1.cell (i := 6) rfl, k1.cell (i := 7) rfl, k1.cell (i := 8) rfl, k1.cell (i := 9) rfl⟩
  obtain ⟨d0, d1, d2, d3, d4, d5, d6, d7, d8, d9⟩ := show V'.cell? ⟨L + 1 + 1, 0, none⟩ = some (.int .u32 (m1 : Int)) ∧ V'.cell? ⟨L + 1 + 1, 1, none⟩ = some (.int .u32 b.src.hi) ∧ V'.cell? ⟨L + 1 + 1, 2, none⟩ = some (.int .u32 b.dst.lo) ∧ V'.cell? ⟨L + 1 + 1, 3, none⟩ = some (.int .u32 b.dst.hi) ∧ V'.cell? ⟨L + 1 + 1, 4, none⟩ = some (.int .u16 b.sp.lo) ∧ V'.cell? ⟨L + 1 + 1, 5, none⟩ = some (.int .u16 b.sp.hi) ∧ V'.cell? ⟨L + 1 + 1, 6, none⟩ = some (.int .u16 b.dp.lo) ∧ V'.cell? ⟨L + 1 + 1, 7, none⟩ = some (.int .u16 b.dp.hi) ∧ V'.cell? ⟨L + 1 + 1, 8, none⟩ = some (.int .u8 b.pr.v) ∧ V'.cell? ⟨L + 1 + 1, 9, none⟩ = some (.int .u8 b.pr.c) from ⟨k2.cell (i := 0) rfl, k2.cell (i := 1) rfl, k2.cell (i := 2) rfl, k2.cell (i := 3) rfl, k2.cell (i := 4) rfl, k2.cell (i := 5) rfl, k2.cell (i := 6) rfl, k2.cell (i := 7) rfl, k2.cell (i := 8) rfl, k2.cell (i := 9) rfl⟩
  clear k1 k2 ho hV
  go_wp2
  refine bodyPost_ret (v := .tuple #[.agg #[.int .u32 b.src.lo, .int .u32 (mid : Int), .int .u32 b.dst.lo, .int .u32 b.dst.hi, .int .u16 b.sp.lo, .int .u16 b.sp.hi, .int .u16 b.dp.lo, .int .u16 b.dp.hi, .int .u8 b.pr.v, .int .u8 b.pr.c], .agg #[.int .u32 (m1 : Int), .int .u32 b.src.hi, .int .u32 b.dst.lo, .int .u32 b.dst.hi, .int .u16 b.sp.lo, .int .u16 b.sp.hi, .int .u16 b.dp.lo, .int .u16 b.dp.hi, .int .u8 b.pr.v, .int .u8 b.pr.c], .func (.func 92) #[] #[.pointer (some ⟨O, 0, none⟩), .pointer (some ⟨T, 0, none⟩)], .bool true]) (by simp [results, Try.results91, go_sem, *]) rfl ⟨T, rfl, by rw [HL.out]; have := HT.out; omega, HTc.out, by rw [HL.out]; exact HO.out⟩
set_option maxHeartbeats 2000000 in
set_option maxRecDepth 100000 in
theorem cut1_no (b : Bx) (F O : Nat) (w : World) (hF : w.cell? ⟨F, 0, none⟩ = some (.func (.func 71) #[] #[])) (he : b.dst.lo = b.dst.hi) :
    Calls Try.prog 91 #[.agg #[.int .u32 b.src.lo, .int .u32 b.src.hi, .int .u32 b.dst.lo, .int .u32 b.dst.hi, .int .u16 b.sp.lo, .int .u16 b.sp.hi, .int .u16 b.dp.lo, .int .u16 b.dp.hi, .int .u8 b.pr.v, .int .u8 b.pr.c], .pointer (some ⟨F, 0, none⟩), .pointer (some ⟨O, 0, none⟩)] w fun e w' => e = .returned (.tuple #[.agg #[.int .u32 b.src.lo, .int .u32 b.src.hi, .int .u32 b.dst.lo, .int .u32 b.dst.hi, .int .u16 b.sp.lo, .int .u16 b.sp.hi, .int .u16 b.dp.lo, .int .u16 b.dp.hi, .int .u8 b.pr.v, .int .u8 b.pr.c], .agg #[.int .u32 b.src.lo, .int .u32 b.src.hi, .int .u32 b.dst.lo, .int .u32 b.dst.hi, .int .u16 b.sp.lo, .int .u16 b.sp.hi, .int .u16 b.dp.lo, .int .u16 b.dp.hi, .int .u8 b.pr.v, .int .u8 b.pr.c], .nilFunc, .bool false]) ∧ Below w.heap.size w w' := by
  have ht : ((b.dst.lo : Int) == (b.dst.hi : Int)) = true := by simp [he]
  clear he
  obtain ⟨M, hM⟩ : ∃ M, ((((w.alloc (.cells #[.int .u32 b.src.lo, .int .u32 b.src.hi, .int .u32 b.dst.lo, .int .u32 b.dst.hi, .int .u16 b.sp.lo, .int .u16 b.sp.hi, .int .u16 b.dp.lo, .int .u16 b.dp.hi, .int .u8 b.pr.v, .int .u8 b.pr.c] 109)).alloc (.cells #[.int .u32 0, .int .u32 0, .int .u32 0, .int .u32 0, .int .u16 0, .int .u16 0, .int .u16 0, .int .u16 0, .int .u8 0, .int .u8 0] 109)).alloc (.cells #[.int .u32 0, .int .u32 0, .int .u32 0, .int .u32 0, .int .u16 0, .int .u16 0, .int .u16 0, .int .u16 0, .int .u8 0, .int .u8 0] 109)).alloc (.cells #[.int .u32 b.src.lo, .int .u32 b.src.hi, .int .u32 b.dst.lo, .int .u32 b.dst.hi, .int .u16 b.sp.lo, .int .u16 b.sp.hi, .int .u16 b.dp.lo, .int .u16 b.dp.hi, .int .u8 b.pr.v, .int .u8 b.pr.c] 109)).alloc (.cells #[.int .u32 b.src.lo, .int .u32 b.src.hi, .int .u32 b.dst.lo, .int .u32 b.dst.hi, .int .u16 b.sp.lo, .int .u16 b.sp.hi, .int .u16 b.dp.lo, .int .u16 b.dp.hi, .int .u8 b.pr.v, .int .u8 b.pr.c] 109) = M := ⟨_, rfl⟩
  obtain ⟨hfv, hbw, hsz⟩ := five _ _ _ _ _ _ _ _ hM
  obtain ⟨L, hL⟩ : ∃ L, w.heap.size = L := ⟨_, rfl⟩
  rw [hL] at hfv hbw hsz
  have HM := Sd.mk hM
  have HL := Sd.mk hL
  have hFM := (hbw.cell (by rw [← hL]; exact World.block_lt_of_cell? w _ hF)).trans hF
  have HFL : Sd (F < L) := ⟨by rw [← hL]; exact World.block_lt_of_cell? w _ hF⟩
  have H1 := Sd.mk (fun g W => field1_any g W)
  have HB := Sd.mk (And.intro hbw (And.intro hsz hfv))
  clear hM hF hsz hbw
  go_enter Try.func91, Try.ntmps91
  go_upto_region 2 with fail
  rw [HM.out]
  try rw [HL.out]
  have hb0 := hfv.1
  obtain ⟨c0, c1, c2, c3, c4, c5, c6, c7, c8, c9⟩ := show M.cell? ⟨L, 0, none⟩ = some (.int .u32 b.src.lo) ∧ M.cell? ⟨L, 1, none⟩ = some (.int .u32 b.src.hi) ∧ M.cell? ⟨L, 2, none⟩ = some (.int .u32 b.dst.lo) ∧ M.cell? ⟨L, 3, none⟩ = some (.int .u32 b.dst.hi) ∧ M.cell? ⟨L, 4, none⟩ = some (.int .u16 b.sp.lo) ∧ M.cell? ⟨L, 5, none⟩ = some (.int .u16 b.sp.hi) ∧ M.cell? ⟨L, 6, none⟩ = some (.int .u16 b.dp.lo) ∧ M.cell? ⟨L, 7, none⟩ = some (.int .u16 b.dp.hi) ∧ M.cell? ⟨L, 8, none⟩ = some (.int .u8 b.pr.v) ∧ M.cell? ⟨L, 9, none⟩ = some (.int .u8 b.pr.c) from ⟨hb0.cell (i := 0) rfl, hb0.cell (i := 1) rfl, hb0.cell (i := 2) rfl, hb0.cell (i := 3) rfl, hb0.cell (i := 4) rfl, hb0.cell (i := 5) rfl, hb0.cell (i := 6) rfl, hb0.cell (i := 7) rfl, hb0.cell (i := 8) rfl, hb0.cell (i := 9) rfl⟩
  have hlF := World.block_lt_of_cell? M _ hFM
  have hl0 := hb0.lt
  simp only [] at hlF
  clear hb0 hfv hL
  go_wp2_with fail
  refine (H1.out _ _).mono ?_
  rintro e w1 ⟨rfl, rfl⟩
  go_upto_region 4 with fail
  obtain ⟨W0, hW0⟩ : ∃ W0, M.alloc (.cells #[.int .u32 b.dst.lo, .int .u32 b.dst.hi] 107) = W0 := ⟨_, rfl⟩
  have hbW : Below M.heap.size M W0 := by rw [← hW0]; exact (Below.refl _ _).alloc (Nat.le_refl _) _
  obtain ⟨hbw, hsz, h0, h1, h2, _⟩ := HB.out
  have hB0 := h0.below hbW h0.lt
  have hB1 := h1.below hbW h1.lt
  have hB2 := h2.below hbW h2.lt
  have HW := Sd.mk (And.intro (show Below L w W0 from hbw.trans (hbW.mono (by omega))) (And.intro hB1 hB2))
  rw [hW0]
  clear c0 c1 c2 c3 c4 c5 c6 c7 c8 c9 hW0 h0 h1 h2 hbw hsz
  obtain ⟨c0, c1, c2, c3, c4, c5, c6, c7, c8, c9⟩ := show W0.cell? ⟨L, 0, none⟩ = some (.int .u32 b.src.lo) ∧ W0.cell? ⟨L, 1, none⟩ = some (.int .u32 b.src.hi) ∧ W0.cell? ⟨L, 2, none⟩ = some (.int .u32 b.dst.lo) ∧ W0.cell? ⟨L, 3, none⟩ = some (.int .u32 b.dst.hi) ∧ W0.cell? ⟨L, 4, none⟩ = some (.int .u16 b.sp.lo) ∧ W0.cell? ⟨L, 5, none⟩ = some (.int .u16 b.sp.hi) ∧ W0.cell? ⟨L, 6, none⟩ = some (.int .u16 b.dp.lo) ∧ W0.cell? ⟨L, 7, none⟩ = some (.int .u16 b.dp.hi) ∧ W0.cell? ⟨L, 8, none⟩ = some (.int .u8 b.pr.v) ∧ W0.cell? ⟨L, 9, none⟩ = some (.int .u8 b.pr.c) from ⟨hB0.cell (i := 0) rfl, hB0.cell (i := 1) rfl, hB0.cell (i := 2) rfl, hB0.cell (i := 3) rfl, hB0.cell (i := 4) rfl, hB0.cell (i := 5) rfl, hB0.cell (i := 6) rfl, hB0.cell (i := 7) rfl, hB0.cell (i := 8) rfl, hB0.cell (i := 9) rfl⟩
  have g1 := hB1.at
  have g2 := hB2.at
  have f1 := hB1.frozen
  have f2 := hB2.frozen
  have l0 := hB0.lt
  have l1 := hB1.lt
  have l2 := hB2.lt
  clear hbW hB0 hB1 hB2
  go_region
  clear c0 c1 c2 c3 c4 c5 c6 c7 c8 c9 g1 g2 f1 f2 l0 l1 l2
  obtain ⟨V', hV⟩ : ∃ V', ((((((((((((((((((((W0.setCell ⟨L + 1, 0, none⟩ (.int .u32 b.src.lo)).setCell ⟨L + 1, 1, none⟩ (.int .u32 b.src.hi)).setCell ⟨L + 1, 2, none⟩ (.int .u32 b.dst.lo)).setCell ⟨L + 1, 3, none⟩ (.int .u32 b.dst.hi)).setCell ⟨L + 1, 4, none⟩ (.int .u16 b.sp.lo)).setCell ⟨L + 1, 5, none⟩ (.int .u16 b.sp.hi)).setCell ⟨L + 1, 6, none⟩ (.int .u16 b.dp.lo)).setCell ⟨L + 1, 7, none⟩ (.int .u16 b.dp.hi)).setCell ⟨L + 1, 8, none⟩ (.int .u8 b.pr.v)).setCell ⟨L + 1, 9, none⟩ (.int .u8 b.pr.c)).setCell ⟨L + 1 + 1, 0, none⟩ (.int .u32 b.src.lo)).setCell ⟨L + 1 + 1, 1, none⟩ (.int .u32 b.src.hi)).setCell ⟨L + 1 + 1, 2, none⟩ (.int .u32 b.dst.lo)).setCell ⟨L + 1 + 1, 3, none⟩ (.int .u32 b.dst.hi)).setCell ⟨L + 1 + 1, 4, none⟩ (.int .u16 b.sp.lo)).setCell ⟨L + 1 + 1, 5, none⟩ (.int .u16 b.sp.hi)).setCell ⟨L + 1 + 1, 6, none⟩ (.int .u16 b.dp.lo)).setCell ⟨L + 1 + 1, 7, none⟩ (.int .u16 b.dp.hi)).setCell ⟨L + 1 + 1, 8, none⟩ (.int .u8 b.pr.v)).setCell ⟨L + 1 + 1, 9, none⟩ (.int .u8 b.pr.c)).drew = V' := ⟨_, rfl⟩
  obtain ⟨k1, k2, ho⟩ := fill2 HW.out.2.1 HW.out.2.2 (by omega) hV
  rw [hV]
  have HO : Sd (Below L w V') := ⟨HW.out.1.trans (ho.below L (by rw [← HL.out]; exact HW.out.1.size) (fun k hk => by omega))⟩
  obtain ⟨c0, c1, c2, c3, c4, c5, c6, c7, c8, c9⟩ := show V'.cell? ⟨L + 1, 0, none⟩ = some (.int .u32 b.src.lo) ∧ V'.cell? ⟨L + 1, 1, none⟩ = some (.int .u32 b.src.hi) ∧ V'.cell? ⟨L + 1, 2, none⟩ = some (.int .u32 b.dst.lo) ∧ V'.cell? ⟨L + 1, 3, none⟩ = some (.int .u32 b.dst.hi) ∧ V'.cell? ⟨L + 1, 4, none⟩ = some (.int .u16 b.sp.lo) ∧ V'.cell? ⟨L + 1, 5, none⟩ = some (.int .u16 b.sp.hi) ∧ V'.cell? ⟨L + 1, 6, none⟩ = some (.int .u16 b.dp.lo) ∧ V'.cell? ⟨L + 1, 7, none⟩ = some (.int .u16 b.dp.hi) ∧ V'.cell? ⟨L + 1, 8, none⟩ = some (.int .u8 b.pr.v) ∧ V'.cell? ⟨L + 1, 9, none⟩ = some (.int .u8 b.pr.c) from ⟨k1.cell (i := 0) rfl, k1.cell (i := 1) rfl, k1.cell (i := 2) rfl, k1.cell (i := 3) rfl, k1.cell (i := 4) rfl, k1.cell (i := 5) rfl, k1.cell (i := 6) rfl, k1.cell (i := 7) rfl, k1.cell (i := 8) rfl, k1.cell (i := 9) rfl⟩
  obtain ⟨d0, d1, d2, d3, d4, d5, d6, d7, d8, d9⟩ := show V'.cell? ⟨L + 1 + 1, 0, none⟩ = some (.int .u32 b.src.lo) ∧ V'.cell? ⟨L + 1 + 1, 1, none⟩ = some (.int .u32 b.src.hi) ∧ V'.cell? ⟨L + 1 + 1, 2, none⟩ = some (.int .u32 b.dst.lo) ∧ V'.cell? ⟨L + 1 + 1, 3, none⟩ = some (.int .u32 b.dst.hi) ∧ V'.cell? ⟨L + 1 + 1, 4, none⟩ = some (.int .u16 b.sp.lo) ∧ V'.cell? ⟨L + 1 + 1, 5, none⟩ = some (.int .u16 b.sp.hi) ∧ V'.cell? ⟨L + 1 + 1, 6, none⟩ = some (.int .u16 b.dp.lo) ∧ V'.cell? ⟨L + 1 + 1, 7, none⟩ = some (.int .u16 b.dp.hi) ∧ V'.cell? ⟨L + 1 + 1, 8, none⟩ = some (.int .u8 b.pr.v) ∧ V'.cell? ⟨L + 1 + 1, 9, none⟩ = some (.int .u8 b.pr.c) from ⟨k2.cell (i := 0) rfl, k2.cell (i := 1) rfl, k2.cell (i := 2) rfl, k2.cell (i := 3) rfl, k2.cell (i := 4) rfl, k2.cell (i := 5) rfl, k2.cell (i := 6) rfl, k2.cell (i := 7) rfl, k2.cell (i := 8) rfl, k2.cell (i := 9) rfl⟩
  clear k1 k2 ho hV
  go_wp2
  refine bodyPost_ret (v := .tuple #[.agg #[.int .u32 b.src.lo, .int .u32 b.src.hi, .int .u32 b.dst.lo, .int .u32 b.dst.hi, .int .u16 b.sp.lo, .int .u16 b.sp.hi, .int .u16 b.dp.lo, .int .u16 b.dp.hi, .int .u8 b.pr.v, .int .u8 b.pr.c], .agg #[.int .u32 b.src.lo, .int .u32 b.src.hi, .int .u32 b.dst.lo, .int .u32 b.dst.hi, .int .u16 b.sp.lo, .int .u16 b.sp.hi, .int .u16 b.dp.lo, .int .u16 b.dp.hi, .int .u8 b.pr.v, .int .u8 b.pr.c], .nilFunc, .bool false]) (by simp [results, Try.results91, go_sem, *]) rfl ⟨rfl, by rw [HL.out]; exact HO.out⟩
set_option maxHeartbeats 2000000 in
set_option maxRecDepth 100000 in
theorem cut1_ok (b : Bx) (F O mid m1 : Nat) (w : World) (hF : w.cell? ⟨F, 0, none⟩ = some (.func (.func 71) #[] #[])) (he : b.dst.lo < b.dst.hi) (hh : b.dst.hi < 4294967296) (hm : mid = b.dst.lo + (b.dst.hi - b.dst.lo) / 2) (hm1 : m1 = mid + 1) :
    Calls Try.prog 91 #[.agg #[.int .u32 b.src.lo, .int .u32 b.src.hi, .int .u32 b.dst.lo, .int .u32 b.dst.hi, .int .u16 b.sp.lo, .int .u16 b.sp.hi, .int .u16 b.dp.lo, .int .u16 b.dp.hi, .int .u8 b.pr.v, .int .u8 b.pr.c], .pointer (some ⟨F, 0, none⟩), .pointer (some ⟨O, 0, none⟩)] w fun e w' => ∃ T, e = .returned (.tuple #[.agg #[.int .u32 b.src.lo, .int .u32 b.src.hi, .int .u32 b.dst.lo, .int .u32 (mid : Int), .int .u16 b.sp.lo, .int .u16 b.sp.hi, .int .u16 b.dp.lo, .int .u16 b.dp.hi, .int .u8 b.pr.v, .int .u8 b.pr.c], .agg #[.int .u32 b.src.lo, .int .u32 b.src.hi, .int .u32 (m1 : Int), .int .u32 b.dst.hi, .int .u16 b.sp.lo, .int .u16 b.sp.hi, .int .u16 b.dp.lo, .int .u16 b.dp.hi, .int .u8 b.pr.v, .int .u8 b.pr.c], .func (.func 92) #[] #[.pointer (some ⟨O, 0, none⟩), .pointer (some ⟨T, 0, none⟩)], .bool true]) ∧ w.heap.size ≤ T ∧ Blk w' T #[.int .u32 (mid : Int)] 25 ∧ Below w.heap.size w w' := by
  have ht : ((b.dst.lo : Int) == (b.dst.hi : Int)) = false := by rw [beq_eq_false_iff_ne]; omega
  have EM : Sd (((b.dst.lo : Int) + ((b.dst.hi : Int) - (b.dst.lo : Int)) / 2) = (mid : Int)) := ⟨by omega⟩
  have HMI : Sd (mid < b.dst.hi) := ⟨by omega⟩
  have EM1 : Sd (IntKind.u32.wrap ((mid : Int) + 1) = (m1 : Int)) := ⟨by rw [IntKind.wrap_u32]; omega⟩
  clear hm hm1
  obtain ⟨M, hM⟩ : ∃ M, ((((w.alloc (.cells #[.int .u32 b.src.lo, .int .u32 b.src.hi, .int .u32 b.dst.lo, .int .u32 b.dst.hi, .int .u16 b.sp.lo, .int .u16 b.sp.hi, .int .u16 b.dp.lo, .int .u16 b.dp.hi, .int .u8 b.pr.v, .int .u8 b.pr.c] 109)).alloc (.cells #[.int .u32 0, .int .u32 0, .int .u32 0, .int .u32 0, .int .u16 0, .int .u16 0, .int .u16 0, .int .u16 0, .int .u8 0, .int .u8 0] 109)).alloc (.cells #[.int .u32 0, .int .u32 0, .int .u32 0, .int .u32 0, .int .u16 0, .int .u16 0, .int .u16 0, .int .u16 0, .int .u8 0, .int .u8 0] 109)).alloc (.cells #[.int .u32 b.src.lo, .int .u32 b.src.hi, .int .u32 b.dst.lo, .int .u32 b.dst.hi, .int .u16 b.sp.lo, .int .u16 b.sp.hi, .int .u16 b.dp.lo, .int .u16 b.dp.hi, .int .u8 b.pr.v, .int .u8 b.pr.c] 109)).alloc (.cells #[.int .u32 b.src.lo, .int .u32 b.src.hi, .int .u32 b.dst.lo, .int .u32 b.dst.hi, .int .u16 b.sp.lo, .int .u16 b.sp.hi, .int .u16 b.dp.lo, .int .u16 b.dp.hi, .int .u8 b.pr.v, .int .u8 b.pr.c] 109) = M := ⟨_, rfl⟩
  obtain ⟨hfv, hbw, hsz⟩ := five _ _ _ _ _ _ _ _ hM
  obtain ⟨L, hL⟩ : ∃ L, w.heap.size = L := ⟨_, rfl⟩
  rw [hL] at hfv hbw hsz
  have HM := Sd.mk hM
  have HL := Sd.mk hL
  have hFM := (hbw.cell (by rw [← hL]; exact World.block_lt_of_cell? w _ hF)).trans hF
  have HFL : Sd (F < L) := ⟨by rw [← hL]; exact World.block_lt_of_cell? w _ hF⟩
  have H1 := Sd.mk (fun g W => field1_any g W)
  have HB := Sd.mk (And.intro hbw (And.intro hsz hfv))
  clear hM hF hsz hbw
  go_enter Try.func91, Try.ntmps91
  go_upto_region 2 with fail
  rw [HM.out]
  try rw [HL.out]
  have hb0 := hfv.1
  obtain ⟨c0, c1, c2, c3, c4, c5, c6, c7, c8, c9⟩ := show M.cell? ⟨L, 0, none⟩ = some (.int .u32 b.src.lo) ∧ M.cell? ⟨L, 1, none⟩ = some (.int .u32 b.src.hi) ∧ M.cell? ⟨L, 2, none⟩ = some (.int .u32 b.dst.lo) ∧ M.cell? ⟨L, 3, none⟩ = some (.int .u32 b.dst.hi) ∧ M.cell? ⟨L, 4, none⟩ = some (.int .u16 b.sp.lo) ∧ M.cell? ⟨L, 5, none⟩ = some (.int .u16 b.sp.hi) ∧ M.cell? ⟨L, 6, none⟩ = some (.int .u16 b.dp.lo) ∧ M.cell? ⟨L, 7, none⟩ = some (.int .u16 b.dp.hi) ∧ M.cell? ⟨L, 8, none⟩ = some (.int .u8 b.pr.v) ∧ M.cell? ⟨L, 9, none⟩ = some (.int .u8 b.pr.c) from ⟨hb0.cell (i := 0) rfl, hb0.cell (i := 1) rfl, hb0.cell (i := 2) rfl, hb0.cell (i := 3) rfl, hb0.cell (i := 4) rfl, hb0.cell (i := 5) rfl, hb0.cell (i := 6) rfl, hb0.cell (i := 7) rfl, hb0.cell (i := 8) rfl, hb0.cell (i := 9) rfl⟩
  have hlF := World.block_lt_of_cell? M _ hFM
  have hl0 := hb0.lt
  simp only [] at hlF
  clear hb0 hfv hL
  go_wp2_with fail
  refine (H1.out _ _).mono ?_
  rintro e w1 ⟨rfl, rfl⟩
  go_upto_region 6 with fail
  rw [EM.out]
  obtain ⟨T, hT⟩ : ∃ T, M.heap.size + 1 = T := ⟨_, rfl⟩
  rw [hT]
  obtain ⟨W0, hW0⟩ : ∃ W0, (M.alloc (.cells #[.int .u32 b.dst.lo, .int .u32 b.dst.hi] 107)).alloc (.cells #[.int .u32 (mid : Int)] 25) = W0 := ⟨_, rfl⟩
  have hbW : Below M.heap.size M W0 := by rw [← hW0]; exact below_alloc (below_alloc (Below.refl _ _) _) _
  have hTb : Blk W0 T #[.int .u32 (mid : Int)] 25 := by rw [← hW0]; exact blkN (by simp [hT]) _ _
  obtain ⟨hbw, hsz, h0, h1, h2, h3, h4⟩ := HB.out
  have hF0 := (hbW.cell hlF).trans hFM
  have HS : Sd (Blk W0 (L + 1) _ _ ∧ Blk W0 (L + 1 + 1) _ _ ∧ Blk W0 (L + 1 + 1 + 1) _ _ ∧ Blk W0 (L + 1 + 1 + 1 + 1) _ _ ∧ Blk W0 T _ _) := ⟨⟨h1.below hbW h1.lt, h2.below hbW h2.lt, h3.below hbW h3.lt, h4.below hbW h4.lt, hTb⟩⟩
  have HW0 : Sd (Below L w W0) := ⟨hbw.trans (hbW.mono (by omega))⟩
  have HT : Sd (L + 1 + 1 + 1 + 1 < T) := ⟨by omega⟩
  rw [hW0]
  clear c0 c1 c2 c3 c4 c5 c6 c7 c8 c9 hW0 h0 h1 h2 h3 h4 hbw hsz hbW hTb hFM hlF hl0 hT
  have tc := HS.out.2.2.2.2.cell (i := 0) rfl
  have f3 := HS.out.2.2.1.frozen
  have l3 := HS.out.2.2.1.lt
  have a3 := HS.out.2.2.1.at
  refine wp_region_still_tail 5 (by kernel_rfl) (by kernel_rfl) ?_
  change wpStill _ _ W0.drew _ _ _
  simp only [List.take_succ_cons, List.take_zero, List.drop_succ_cons, List.drop_zero]
  repeat still_step
  still_call ((H1.out _ _).mono fun _ _ h => ⟨h.1, h.2.symm⟩)
  repeat still_step
  refine wpStill_nil ?_
  change wpList _ _ _ _ _ W0.drew
  go_upto_region 7 with fail
  obtain ⟨W1, hW1⟩ : ∃ W1, (W0.setCell ⟨L + 1 + 1 + 1, 3, none⟩ (.int .u32 (mid : Int))).drew = W1 := ⟨_, rfl⟩
  have ho1 : Only W0 W1 (fun k => k = L + 1 + 1 + 1) := by rw [← hW1]; exact Only.drew (Only.setCell (Only.refl W0 (fun k => k = L + 1 + 1 + 1)) ⟨L + 1 + 1 + 1, 3, none⟩ _ (fun _ => rfl))
  have k3 := (HS.out.2.2.1.set 3 (.int .u32 (mid : Int))).drew
  rw [hW1] at k3
  simp only [List.setIfInBounds_toArray, List.set_cons_zero, List.set_cons_succ] at k3
  have hF1 : W1.cell? ⟨F, 0, none⟩ = some (.func (.func 71) #[] #[]) := (World.cell?_of_block (a := ⟨F, 0, none⟩) (ho1.block F (World.block_lt_of_cell? W0 _ hF0) (by have := HFL.out; show ¬ F = _; omega))).trans hF0
  have HS1 : Sd (Blk W1 (L + 1) _ _ ∧ Blk W1 (L + 1 + 1) _ _ ∧ Blk W1 (L + 1 + 1 + 1) _ _ ∧ Blk W1 (L + 1 + 1 + 1 + 1) _ _ ∧ Blk W1 T _ _) := ⟨⟨HS.out.1.only ho1 (by omega), HS.out.2.1.only ho1 (by omega), k3, HS.out.2.2.2.1.only ho1 (by omega), HS.out.2.2.2.2.only ho1 (by have := HT.out; omega)⟩⟩
  have HW1 : Sd (Below L w W1) := ⟨HW0.out.trans (ho1.below L (by rw [← HL.out]; exact HW0.out.size) (fun k hk => by omega))⟩
  rw [hW1]
  clear tc f3 l3 a3 hF0 hW1 k3 HS HW0 ho1
  have tc := HS1.out.2.2.2.2.cell (i := 0) rfl
  have f4 := HS1.out.2.2.2.1.frozen
  have l4 := HS1.out.2.2.2.1.lt
  have a4 := HS1.out.2.2.2.1.at
  refine wp_region_still_tail 6 (by kernel_rfl) (by kernel_rfl) ?_
  change wpStill _ _ W1.drew _ _ _
  simp only [List.take_succ_cons, List.take_zero, List.drop_succ_cons, List.drop_zero]
  repeat still_step
  still_call ((H1.out _ _).mono fun _ _ h => ⟨h.1, h.2.symm⟩)
  repeat still_step
  rw [EM1.out]
  repeat still_step
  refine wpStill_nil ?_
  change wpList _ _ _ _ _ W1.drew
  go_upto_region 8 with fail
  obtain ⟨W2, hW2⟩ : ∃ W2, (W1.setCell ⟨L + 1 + 1 + 1 + 1, 2, none⟩ (.int .u32 (m1 : Int))).drew = W2 := ⟨_, rfl⟩
  have ho2 : Only W1 W2 (fun k => k = L + 1 + 1 + 1 + 1) := by rw [← hW2]; exact Only.drew (Only.setCell (Only.refl W1 (fun k => k = L + 1 + 1 + 1 + 1)) ⟨L + 1 + 1 + 1 + 1, 2, none⟩ _ (fun _ => rfl))
  have k4 := (HS1.out.2.2.2.1.set 2 (.int .u32 (m1 : Int))).drew
  rw [hW2] at k4
  simp only [List.setIfInBounds_toArray, List.set_cons_zero, List.set_cons_succ] at k4
  have k3 := HS1.out.2.2.1.only ho2 (by omega)
  have HS2 := Sd.mk (And.intro (HS1.out.1.only ho2 (by omega)) (And.intro (HS1.out.2.1.only ho2 (by omega)) (HS1.out.2.2.2.2.only ho2 (by have := HT.out; omega))))
  have HW2 : Sd (Below L w W2) := ⟨HW1.out.trans (ho2.below L (by rw [← HL.out]; exact HW1.out.size) (fun k hk => by omega))⟩
  rw [hW2]
  clear tc f4 l4 a4 hF1 hW2 HS1 HW1 ho2
  have p3 := k3.at
  have p4 := k4.at
  have l3 := k3.lt
  have l4 := k4.lt
  have g1 := HS2.out.1.at
  have g2 := HS2.out.2.1.at
  have f1 := HS2.out.1.frozen
  have f2 := HS2.out.2.1.frozen
  have l1 := HS2.out.1.lt
  have l2 := HS2.out.2.1.lt
  clear k3 k4
  go_region
  clear p3 p4 l3 l4 g1 g2 f1 f2 l1 l2
  obtain ⟨V', hV⟩ : ∃ V', ((((((((((((((((((((W2.setCell ⟨L + 1, 0, none⟩ (.int .u32 b.src.lo)).setCell ⟨L + 1, 1, none⟩ (.int .u32 b.src.hi)).setCell ⟨L + 1, 2, none⟩ (.int .u32 b.dst.lo)).setCell ⟨L + 1, 3, none⟩ (.int .u32 (mid : Int))).setCell ⟨L + 1, 4, none⟩ (.int .u16 b.sp.lo)).setCell ⟨L + 1, 5, none⟩ (.int .u16 b.sp.hi)).setCell ⟨L + 1, 6, none⟩ (.int .u16 b.dp.lo)).setCell ⟨L + 1, 7, none⟩ (.int .u16 b.dp.hi)).setCell ⟨L + 1, 8, none⟩ (.int .u8 b.pr.v)).setCell ⟨L + 1, 9, none⟩ (.int .u8 b.pr.c)).setCell ⟨L + 1 + 1, 0, none⟩ (.int .u32 b.src.lo)).setCell ⟨L + 1 + 1, 1, none⟩ (.int .u32 b.src.hi)).setCell ⟨L + 1 + 1, 2, none⟩ (.int .u32 (m1 : Int))).setCell ⟨L + 1 + 1, 3, none⟩ (.int .u32 b.dst.hi)).setCell ⟨L + 1 + 1, 4, none⟩ (.int .u16 b.sp.lo)).setCell ⟨L + 1 + 1, 5, none⟩ (.int .u16 b.sp.hi)).setCell ⟨L + 1 + 1, 6, none⟩ (.int .u16 b.dp.lo)).setCell ⟨L + 1 + 1, 7, none⟩ (.int .u16 b.dp.hi)).setCell ⟨L + 1 + 1, 8, none⟩ (.int .u8 b.pr.v)).setCell ⟨L + 1 + 1, 9, none⟩ (.int .u8 b.pr.c)).drew = V' := ⟨_, rfl⟩
  obtain ⟨k1, k2, ho⟩ := fill2 HS2.out.1 HS2.out.2.1 (by omega) hV
  rw [hV]
  have HO : Sd (Below L w V') := ⟨HW2.out.trans (ho.below L (by rw [← HL.out]; exact HW2.out.size) (fun k hk => by omega))⟩
  have HTc := Sd.mk (HS2.out.2.2.only ho (by have := HT.out; omega))
  obtain ⟨c0, c1, c2, c3, c4, c5, c6, c7, c8, c9⟩ := show V'.cell? ⟨L + 1, 0, none⟩ = some (.int .u32 b.src.lo) ∧ V'.cell? ⟨L + 1, 1, none⟩ = some (.int .u32 b.src.hi) ∧ V'.cell? ⟨L + 1, 2, none⟩ = some (.int .u32 b.dst.lo) ∧ V'.cell? ⟨L + 1, 3, none⟩ = some (.int .u32 (mid : Int)) ∧ V'.cell? ⟨L + 1, 4, none⟩ = some (.int .u16 b.sp.lo) ∧ V'.cell? ⟨L + 1, 5, none⟩ = some (.int .u16 b.sp.hi) ∧ V'.cell? ⟨L + 1, 6, none⟩ = some (.int .u16 b.dp.lo) ∧ V'.cell? ⟨L + 1, 7, none⟩ = some (.int .u16 b.dp.hi) ∧ V'.cell? ⟨L + 1, 8, none⟩ = some (.int .u8 b.pr.v) ∧ V'.cell? ⟨L + 1, 9, none⟩ = some (.int .u8 b.pr.c) from ⟨k1.cell (i := 0) rfl, k1.cell (i := 1) rfl, k1.cell (i := 2) rfl, k1.cell (i := 3) rfl, k1.cell (i := 4) rfl, k1.cell (i := 5) rfl, k1.cell (i := 6) rfl, k1.cell (i := 7) rfl, k1.cell (i := 8) rfl, k1.cell (i := 9) rfl⟩
  obtain ⟨d0, d1, d2, d3, d4, d5, d6, d7, d8, d9⟩ := show V'.cell? ⟨L + 1 + 1, 0, none⟩ = some (.int .u32 b.src.lo) ∧ V'.cell? ⟨L + 1 + 1, 1, none⟩ = some (.int .u32 b.src.hi) ∧ V'.cell? ⟨L + 1 + 1, 2, none⟩ = some (.int .u32 (m1 : Int)) ∧ V'.cell? ⟨L + 1 + 1, 3, none⟩ = some (.int .u32 b.dst.hi) ∧ V'.cell? ⟨L + 1 + 1, 4, none⟩ = some (.int .u16 b.sp.lo) ∧ V'.cell? ⟨L + 1 + 1, 5, none⟩ = some (.int .u16 b.sp.hi) ∧ V'.cell? ⟨L + 1 + 1, 6, none⟩ = some (.int .u16 b.dp.lo) ∧ V'.cell? ⟨L + 1 + 1, 7, none⟩ = some (.int .u16 b.dp.hi) ∧ V'.cell? ⟨L + 1 + 1, 8, none⟩ = some (.int .u8 b.pr.v) ∧ V'.cell? ⟨L + 1 + 1, 9, none⟩ = some (.int .u8 b.pr.c) from ⟨k2.cell (i := 0) rfl, k2.cell (i := 1) rfl, k2.cell (i := 2) rfl, k2.cell (i := 3) rfl, k2.cell (i := 4) rfl, k2.cell (i := 5) rfl, k2.cell (i := 6) rfl, k2.cell (i := 7) rfl, k2.cell (i := 8) rfl, k2.cell (i := 9) rfl⟩
  clear k1 k2 ho hV
  go_wp2
  refine bodyPost_ret (v := .tuple #[.agg #[.int .u32 b.src.lo, .int .u32 b.src.hi, .int .u32 b.dst.lo, .int .u32 (mid : Int), .int .u16 b.sp.lo, .int .u16 b.sp.hi, .int .u16 b.dp.lo, .int .u16 b.dp.hi, .int .u8 b.pr.v, .int .u8 b.pr.c], .agg #[.int .u32 b.src.lo, .int .u32 b.src.hi, .int .u32 (m1 : Int), .int .u32 b.dst.hi, .int .u16 b.sp.lo, .int .u16 b.sp.hi, .int .u16 b.dp.lo, .int .u16 b.dp.hi, .int .u8 b.pr.v, .int .u8 b.pr.c], .func (.func 92) #[] #[.pointer (some ⟨O, 0, none⟩), .pointer (some ⟨T, 0, none⟩)], .bool true]) (by simp [results, Try.results91, go_sem, *]) rfl ⟨T, rfl, by rw [HL.out]; have := HT.out; omega, HTc.out, by rw [HL.out]; exact HO.out⟩
set_option maxHeartbeats 2000000 in
set_option maxRecDepth 100000 in
theorem cut2_no (b : Bx) (F O : Nat) (w : World) (hF : w.cell? ⟨F, 0, none⟩ = some (.func (.func 74) #[] #[])) (he : b.sp.lo = b.sp.hi) :
    Calls Try.prog 93 #[.agg #[.int .u32 b.src.lo, .int .u32 b.src.hi, .int .u32 b.dst.lo, .int .u32 b.dst.hi, .int .u16 b.sp.lo, .int .u16 b.sp.hi, .int .u16 b.dp.lo, .int .u16 b.dp.hi, .int .u8 b.pr.v, .int .u8 b.pr.c], .pointer (some ⟨F, 0, none⟩), .pointer (some ⟨O, 0, none⟩)] w fun e w' => e = .returned (.tuple #[.agg #[.int .u32 b.src.lo, .int .u32 b.src.hi, .int .u32 b.dst.lo, .int .u32 b.dst.hi, .int .u16 b.sp.lo, .int .u16 b.sp.hi, .int .u16 b.dp.lo, .int .u16 b.dp.hi, .int .u8 b.pr.v, .int .u8 b.pr.c], .agg #[.int .u32 b.src.lo, .int .u32 b.src.hi, .int .u32 b.dst.lo, .int .u32 b.dst.hi, .int .u16 b.sp.lo, .int .u16 b.sp.hi, .int .u16 b.dp.lo, .int .u16 b.dp.hi, .int .u8 b.pr.v, .int .u8 b.pr.c], .nilFunc, .bool false]) ∧ Below w.heap.size w w' := by
  have ht : ((b.sp.lo : Int) == (b.sp.hi : Int)) = true := by simp [he]
  clear he
  obtain ⟨M, hM⟩ : ∃ M, ((((w.alloc (.cells #[.int .u32 b.src.lo, .int .u32 b.src.hi, .int .u32 b.dst.lo, .int .u32 b.dst.hi, .int .u16 b.sp.lo, .int .u16 b.sp.hi, .int .u16 b.dp.lo, .int .u16 b.dp.hi, .int .u8 b.pr.v, .int .u8 b.pr.c] 109)).alloc (.cells #[.int .u32 0, .int .u32 0, .int .u32 0, .int .u32 0, .int .u16 0, .int .u16 0, .int .u16 0, .int .u16 0, .int .u8 0, .int .u8 0] 109)).alloc (.cells #[.int .u32 0, .int .u32 0, .int .u32 0, .int .u32 0, .int .u16 0, .int .u16 0, .int .u16 0, .int .u16 0, .int .u8 0, .int .u8 0] 109)).alloc (.cells #[.int .u32 b.src.lo, .int .u32 b.src.hi, .int .u32 b.dst.lo, .int .u32 b.dst.hi, .int .u16 b.sp.lo, .int .u16 b.sp.hi, .int .u16 b.dp.lo, .int .u16 b.dp.hi, .int .u8 b.pr.v, .int .u8 b.pr.c] 109)).alloc (.cells #[.int .u32 b.src.lo, .int .u32 b.src.hi, .int .u32 b.dst.lo, .int .u32 b.dst.hi, .int .u16 b.sp.lo, .int .u16 b.sp.hi, .int .u16 b.dp.lo, .int .u16 b.dp.hi, .int .u8 b.pr.v, .int .u8 b.pr.c] 109) = M := ⟨_, rfl⟩
  obtain ⟨hfv, hbw, hsz⟩ := five _ _ _ _ _ _ _ _ hM
  obtain ⟨L, hL⟩ : ∃ L, w.heap.size = L := ⟨_, rfl⟩
  rw [hL] at hfv hbw hsz
  have HM := Sd.mk hM
  have HL := Sd.mk hL
  have hFM := (hbw.cell (by rw [← hL]; exact World.block_lt_of_cell? w _ hF)).trans hF
  have HFL : Sd (F < L) := ⟨by rw [← hL]; exact World.block_lt_of_cell? w _ hF⟩
  have H1 := Sd.mk (fun g W => field2_any g W)
  have HB := Sd.mk (And.intro hbw (And.intro hsz hfv))
  clear hM hF hsz hbw
  go_enter Try.func93, Try.ntmps93
  go_upto_region 2 with fail
  rw [HM.out]
  try rw [HL.out]
  have hb0 := hfv.1
  obtain ⟨c0, c1, c2, c3, c4, c5, c6, c7, c8, c9⟩ := show M.cell? ⟨L, 0, none⟩ = some (.int .u32 b.src.lo) ∧ M.cell? ⟨L, 1, none⟩ = some (.int .u32 b.src.hi) ∧ M.cell? ⟨L, 2, none⟩ = some (.int .u32 b.dst.lo) ∧ M.cell? ⟨L, 3, none⟩ = some (.int .u32 b.dst.hi) ∧ M.cell? ⟨L, 4, none⟩ = some (.int .u16 b.sp.lo) ∧ M.cell? ⟨L, 5, none⟩ = some (.int .u16 b.sp.hi) ∧ M.cell? ⟨L, 6, none⟩ = some (.int .u16 b.dp.lo) ∧ M.cell? ⟨L, 7, none⟩ = some (.int .u16 b.dp.hi) ∧ M.cell? ⟨L, 8, none⟩ = some (.int .u8 b.pr.v) ∧ M.cell? ⟨L, 9, none⟩ = some (.int .u8 b.pr.c) from ⟨hb0.cell (i := 0) rfl, hb0.cell (i := 1) rfl, hb0.cell (i := 2) rfl, hb0.cell (i := 3) rfl, hb0.cell (i := 4) rfl, hb0.cell (i := 5) rfl, hb0.cell (i := 6) rfl, hb0.cell (i := 7) rfl, hb0.cell (i := 8) rfl, hb0.cell (i := 9) rfl⟩
  have hlF := World.block_lt_of_cell? M _ hFM
  have hl0 := hb0.lt
  simp only [] at hlF
  clear hb0 hfv hL
  go_wp2_with fail
  refine (H1.out _ _).mono ?_
  rintro e w1 ⟨rfl, rfl⟩
  go_upto_region 4 with fail
  obtain ⟨W0, hW0⟩ : ∃ W0, M.alloc (.cells #[.int .u16 b.sp.lo, .int .u16 b.sp.hi] 56) = W0 := ⟨_, rfl⟩
  have hbW : Below M.heap.size M W0 := by rw [← hW0]; exact (Below.refl _ _).alloc (Nat.le_refl _) _
  obtain ⟨hbw, hsz, h0, h1, h2, _⟩ := HB.out
  have hB0 := h0.below hbW h0.lt
  have hB1 := h1.below hbW h1.lt
  have hB2 := h2.below hbW h2.lt
  have HW := Sd.mk (And.intro (show Below L w W0 from hbw.trans (hbW.mono (by omega))) (And.intro hB1 hB2))
  rw [hW0]
  clear c0 c1 c2 c3 c4 c5 c6 c7 c8 c9 hW0 h0 h1 h2 hbw hsz
  obtain ⟨c0, c1, c2, c3, c4, c5, c6, c7, c8, c9⟩ := show W0.cell? ⟨L, 0, none⟩ = some (.int .u32 b.src.lo) ∧ W0.cell? ⟨L, 1, none⟩ = some (.int .u32 b.src.hi) ∧ W0.cell? ⟨L, 2, none⟩ = some (.int .u32 b.dst.lo) ∧ W0.cell? ⟨L, 3, none⟩ = some (.int .u32 b.dst.hi) ∧ W0.cell? ⟨L, 4, none⟩ = some (.int .u16 b.sp.lo) ∧ W0.cell? ⟨L, 5, none⟩ = some (.int .u16 b.sp.hi) ∧ W0.cell? ⟨L, 6, none⟩ = some (.int .u16 b.dp.lo) ∧ W0.cell? ⟨L, 7, none⟩ = some (.int .u16 b.dp.hi) ∧ W0.cell? ⟨L, 8, none⟩ = some (.int .u8 b.pr.v) ∧ W0.cell? ⟨L, 9, none⟩ = some (.int .u8 b.pr.c) from ⟨hB0.cell (i := 0) rfl, hB0.cell (i := 1) rfl, hB0.cell (i := 2) rfl, hB0.cell (i := 3) rfl, hB0.cell (i := 4) rfl, hB0.cell (i := 5) rfl, hB0.cell (i := 6) rfl, hB0.cell (i := 7) rfl, hB0.cell (i := 8) rfl, hB0.cell (i := 9) rfl⟩
  have g1 := hB1.at
  have g2 := hB2.at
  have f1 := hB1.frozen
  have f2 := hB2.frozen
  have l0 := hB0.lt
  have l1 := hB1.lt
  have l2 := hB2.lt
  clear hbW hB0 hB1 hB2
  go_region
  clear c0 c1 c2 c3 c4 c5 c6 c7 c8 c9 g1 g2 f1 f2 l0 l1 l2
  obtain ⟨V', hV⟩ : ∃ V', ((((((((((((((((((((W0.setCell ⟨L + 1, 0, none⟩ (.int .u32 b.src.lo)).setCell ⟨L + 1, 1, none⟩ (.int .u32 b.src.hi)).setCell ⟨L + 1, 2, none⟩ (.int .u32 b.dst.lo)).setCell ⟨L + 1, 3, none⟩ (.int .u32 b.dst.hi)).setCell ⟨L + 1, 4, none⟩ (.int .u16 b.sp.lo)).setCell ⟨L + 1, 5, none⟩ (.int .u16 b.sp.hi)).setCell ⟨L + 1, 6, none⟩ (.int .u16 b.dp.lo)).setCell ⟨L + 1, 7, none⟩ (.int .u16 b.dp.hi)).setCell ⟨L + 1, 8, none⟩ (.int .u8 b.pr.v)).setCell ⟨L + 1, 9, none⟩ (.int .u8 b.pr.c)).setCell ⟨L + 1 + 1, 0, none⟩ (.int .u32 b.src.lo)).setCell ⟨L + 1 + 1, 1, none⟩ (.int .u32 b.src.hi)).setCell ⟨L + 1 + 1, 2, none⟩ (.int .u32 b.dst.lo)).setCell ⟨L + 1 + 1, 3, none⟩ (.int .u32 b.dst.hi)).setCell ⟨L + 1 + 1, 4, none⟩ (.int .u16 b.sp.lo)).setCell ⟨L + 1 + 1, 5, none⟩ (.int .u16 b.sp.hi)).setCell ⟨L + 1 + 1, 6, none⟩ (.int .u16 b.dp.lo)).setCell ⟨L + 1 + 1, 7, none⟩ (.int .u16 b.dp.hi)).setCell ⟨L + 1 + 1, 8, none⟩ (.int .u8 b.pr.v)).setCell ⟨L + 1 + 1, 9, none⟩ (.int .u8 b.pr.c)).drew = V' := ⟨_, rfl⟩
  obtain ⟨k1, k2, ho⟩ := fill2 HW.out.2.1 HW.out.2.2 (by omega) hV
  rw [hV]
  have HO : Sd (Below L w V') := ⟨HW.out.1.trans (ho.below L (by rw [← HL.out]; exact HW.out.1.size) (fun k hk => by omega))⟩
  obtain ⟨c0, c1, c2, c3, c4, c5, c6, c7, c8, c9⟩ := show V'.cell? ⟨L + 1, 0, none⟩ = some (.int .u32 b.src.lo) ∧ V'.cell? ⟨L + 1, 1, none⟩ = some (.int .u32 b.src.hi) ∧ V'.cell? ⟨L + 1, 2, none⟩ = some (.int .u32 b.dst.lo) ∧ V'.cell? ⟨L + 1, 3, none⟩ = some (.int .u32 b.dst.hi) ∧ V'.cell? ⟨L + 1, 4, none⟩ = some (.int .u16 b.sp.lo) ∧ V'.cell? ⟨L + 1, 5, none⟩ = some (.int .u16 b.sp.hi) ∧ V'.cell? ⟨L + 1, 6, none⟩ = some (.int .u16 b.dp.lo) ∧ V'.cell? ⟨L + 1, 7, none⟩ = some (.int .u16 b.dp.hi) ∧ V'.cell? ⟨L + 1, 8, none⟩ = some (.int .u8 b.pr.v) ∧ V'.cell? ⟨L + 1, 9, none⟩ = some (.int .u8 b.pr.c) from ⟨k1.cell (i := 0) rfl, k1.cell (i := 1) rfl, k1.cell (i := 2) rfl, k1.cell (i := 3) rfl, k1.cell (i := 4) rfl, k1.cell (i := 5) rfl, k1.cell (i := 6) rfl, k1.cell (i := 7) rfl, k1.cell (i := 8) rfl, k1.cell (i := 9) rfl⟩
  obtain ⟨d0, d1, d2, d3, d4, d5, d6, d7, d8, d9⟩ := show V'.cell? ⟨L + 1 + 1, 0, none⟩ = some (.int .u32 b.src.lo) ∧ V'.cell? ⟨L + 1 + 1, 1, none⟩ = some (.int .u32 b.src.hi) ∧ V'.cell? ⟨L + 1 + 1, 2, none⟩ = some (.int .u32 b.dst.lo) ∧ V'.cell? ⟨L + 1 + 1, 3, none⟩ = some (.int .u32 b.dst.hi) ∧ V'.cell? ⟨L + 1 + 1, 4, none⟩ = some (.int .u16 b.sp.lo) ∧ V'.cell? ⟨L + 1 + 1, 5, none⟩ = some (.int .u16 b.sp.hi) ∧ V'.cell? ⟨L + 1 + 1, 6, none⟩ = some (.int .u16 b.dp.lo) ∧ V'.cell? ⟨L + 1 + 1, 7, none⟩ = some (.int .u16 b.dp.hi) ∧ V'.cell? ⟨L + 1 + 1, 8, none⟩ = some (.int .u8 b.pr.v) ∧ V'.cell? ⟨L + 1 + 1, 9, none⟩ = some (.int .u8 b.pr.c) from ⟨k2.cell (i := 0) rfl, k2.cell (i := 1) rfl, k2.cell (i := 2) rfl, k2.cell (i := 3) rfl, k2.cell (i := 4) rfl, k2.cell (i := 5) rfl, k2.cell (i := 6) rfl, k2.cell (i := 7) rfl, k2.cell (i := 8) rfl, k2.cell (i := 9) rfl⟩
  clear k1 k2 ho hV
  go_wp2
  refine bodyPost_ret (v := .tuple #[.agg #[.int .u32 b.src.lo, .int .u32 b.src.hi, .int .u32 b.dst.lo, .int .u32 b.dst.hi, .int .u16 b.sp.lo, .int .u16 b.sp.hi, .int .u16 b.dp.lo, .int .u16 b.dp.hi, .int .u8 b.pr.v, .int .u8 b.pr.c], .agg #[.int .u32 b.src.lo, .int .u32 b.src.hi, .int .u32 b.dst.lo, .int .u32 b.dst.hi, .int .u16 b.sp.lo, .int .u16 b.sp.hi, .int .u16 b.dp.lo, .int .u16 b.dp.hi, .int .u8 b.pr.v, .int .u8 b.pr.c], .nilFunc, .bool false]) (by simp [results, Try.results93, go_sem, *]) rfl ⟨rfl, by rw [HL.out]; exact HO.out⟩
set_option maxHeartbeats 2000000 in
set_option maxRecDepth 100000 in
theorem cut2_ok (b : Bx) (F O mid m1 : Nat) (w : World) (hF : w.cell? ⟨F, 0, none⟩ = some (.func (.func 74) #[] #[])) (he : b.sp.lo < b.sp.hi) (hh : b.sp.hi < 65536) (hm : mid = b.sp.lo + (b.sp.hi - b.sp.lo) / 2) (hm1 : m1 = mid + 1) :
    Calls Try.prog 93 #[.agg #[.int .u32 b.src.lo, .int .u32 b.src.hi, .int .u32 b.dst.lo, .int .u32 b.dst.hi, .int .u16 b.sp.lo, .int .u16 b.sp.hi, .int .u16 b.dp.lo, .int .u16 b.dp.hi, .int .u8 b.pr.v, .int .u8 b.pr.c], .pointer (some ⟨F, 0, none⟩), .pointer (some ⟨O, 0, none⟩)] w fun e w' => ∃ T, e = .returned (.tuple #[.agg #[.int .u32 b.src.lo, .int .u32 b.src.hi, .int .u32 b.dst.lo, .int .u32 b.dst.hi, .int .u16 b.sp.lo, .int .u16 (mid : Int), .int .u16 b.dp.lo, .int .u16 b.dp.hi, .int .u8 b.pr.v, .int .u8 b.pr.c], .agg #[.int .u32 b.src.lo, .int .u32 b.src.hi, .int .u32 b.dst.lo, .int .u32 b.dst.hi, .int .u16 (m1 : Int), .int .u16 b.sp.hi, .int .u16 b.dp.lo, .int .u16 b.dp.hi, .int .u8 b.pr.v, .int .u8 b.pr.c], .func (.func 94) #[] #[.pointer (some ⟨O, 0, none⟩), .pointer (some ⟨T, 0, none⟩)], .bool true]) ∧ w.heap.size ≤ T ∧ Blk w' T #[.int .u16 (mid : Int)] 26 ∧ Below w.heap.size w w' := by
  have ht : ((b.sp.lo : Int) == (b.sp.hi : Int)) = false := by rw [beq_eq_false_iff_ne]; omega
  have EM : Sd (IntKind.u16.wrap ((b.sp.lo : Int) + IntKind.u16.wrap (((b.sp.hi : Int) - (b.sp.lo : Int)).tdiv 2)) = (mid : Int)) := ⟨by rw [Int.tdiv_eq_ediv_of_nonneg (by omega), IntKind.wrap_u16, IntKind.wrap_u16]; omega⟩
  have HMI : Sd (mid < b.sp.hi) := ⟨by omega⟩
  have EM1 : Sd (IntKind.u16.wrap ((mid : Int) + 1) = (m1 : Int)) := ⟨by rw [IntKind.wrap_u16]; omega⟩
  clear hm hm1
  obtain ⟨M, hM⟩ : ∃ M, ((((w.alloc (.cells #[.int .u32 b.src.lo, .int .u32 b.src.hi, .int .u32 b.dst.lo, .int .u32 b.dst.hi, .int .u16 b.sp.lo, .int .u16 b.sp.hi, .int .u16 b.dp.lo, .int .u16 b.dp.hi, .int .u8 b.pr.v, .int .u8 b.pr.c] 109)).alloc (.cells #[.int .u32 0, .int .u32 0, .int .u32 0, .int .u32 0, .int .u16 0, .int .u16 0, .int .u16 0, .int .u16 0, .int .u8 0, .int .u8 0] 109)).alloc (.cells #[.int .u32 0, .int .u32 0, .int .u32 0, .int .u32 0, .int .u16 0, .int .u16 0, .int .u16 0, .int .u16 0, .int .u8 0, .int .u8 0] 109)).alloc (.cells #[.int .u32 b.src.lo, .int .u32 b.src.hi, .int .u32 b.dst.lo, .int .u32 b.dst.hi, .int .u16 b.sp.lo, .int .u16 b.sp.hi, .int .u16 b.dp.lo, .int .u16 b.dp.hi, .int .u8 b.pr.v, .int .u8 b.pr.c] 109)).alloc (.cells #[.int .u32 b.src.lo, .int .u32 b.src.hi, .int .u32 b.dst.lo, .int .u32 b.dst.hi, .int .u16 b.sp.lo, .int .u16 b.sp.hi, .int .u16 b.dp.lo, .int .u16 b.dp.hi, .int .u8 b.pr.v, .int .u8 b.pr.c] 109) = M := ⟨_, rfl⟩
  obtain ⟨hfv, hbw, hsz⟩ := five _ _ _ _ _ _ _ _ hM
  obtain ⟨L, hL⟩ : ∃ L, w.heap.size = L := ⟨_, rfl⟩
  rw [hL] at hfv hbw hsz
  have HM := Sd.mk hM
  have HL := Sd.mk hL
  have hFM := (hbw.cell (by rw [← hL]; exact World.block_lt_of_cell? w _ hF)).trans hF
  have HFL : Sd (F < L) := ⟨by rw [← hL]; exact World.block_lt_of_cell? w _ hF⟩
  have H1 := Sd.mk (fun g W => field2_any g W)
  have HB := Sd.mk (And.intro hbw (And.intro hsz hfv))
  clear hM hF hsz hbw
  go_enter Try.func93, Try.ntmps93
  go_upto_region 2 with fail
  rw [HM.out]
  try rw [HL.out]
  have hb0 := hfv.1
  obtain ⟨c0, c1, c2, c3, c4, c5, c6, c7, c8, c9⟩ := show M.cell? ⟨L, 0, none⟩ = some (.int .u32 b.src.lo) ∧ M.cell? ⟨L, 1, none⟩ = some (.int .u32 b.src.hi) ∧ M.cell? ⟨L, 2, none⟩ = some (.int .u32 b.dst.lo) ∧ M.cell? ⟨L, 3, none⟩ = some (.int .u32 b.dst.hi) ∧ M.cell? ⟨L, 4, none⟩ = some (.int .u16 b.sp.lo) ∧ M.cell? ⟨L, 5, none⟩ = some (.int .u16 b.sp.hi) ∧ M.cell? ⟨L, 6, none⟩ = some (.int .u16 b.dp.lo) ∧ M.cell? ⟨L, 7, none⟩ = some (.int .u16 b.dp.hi) ∧ M.cell? ⟨L, 8, none⟩ = some (.int .u8 b.pr.v) ∧ M.cell? ⟨L, 9, none⟩ = some (.int .u8 b.pr.c) from ⟨hb0.cell (i := 0) rfl, hb0.cell (i := 1) rfl, hb0.cell (i := 2) rfl, hb0.cell (i := 3) rfl, hb0.cell (i := 4) rfl, hb0.cell (i := 5) rfl, hb0.cell (i := 6) rfl, hb0.cell (i := 7) rfl, hb0.cell (i := 8) rfl, hb0.cell (i := 9) rfl⟩
  have hlF := World.block_lt_of_cell? M _ hFM
  have hl0 := hb0.lt
  simp only [] at hlF
  clear hb0 hfv hL
  go_wp2_with fail
  refine (H1.out _ _).mono ?_
  rintro e w1 ⟨rfl, rfl⟩
  go_upto_region 6 with fail
  rw [EM.out]
  obtain ⟨T, hT⟩ : ∃ T, M.heap.size + 1 = T := ⟨_, rfl⟩
  rw [hT]
  obtain ⟨W0, hW0⟩ : ∃ W0, (M.alloc (.cells #[.int .u16 b.sp.lo, .int .u16 b.sp.hi] 56)).alloc (.cells #[.int .u16 (mid : Int)] 26) = W0 := ⟨_, rfl⟩
  have hbW : Below M.heap.size M W0 := by rw [← hW0]; exact below_alloc (below_alloc (Below.refl _ _) _) _
  have hTb : Blk W0 T #[.int .u16 (mid : Int)] 26 := by rw [← hW0]; exact blkN (by simp [hT]) _ _
  obtain ⟨hbw, hsz, h0, h1, h2, h3, h4⟩ := HB.out
  have hF0 := (hbW.cell hlF).trans hFM
  have HS : Sd (Blk W0 (L + 1) _ _ ∧ Blk W0 (L + 1 + 1) _ _ ∧ Blk W0 (L + 1 + 1 + 1) _ _ ∧ Blk W0 (L + 1 + 1 + 1 + 1) _ _ ∧ Blk W0 T _ _) := ⟨⟨h1.below hbW h1.lt, h2.below hbW h2.lt, h3.below hbW h3.lt, h4.below hbW h4.lt, hTb⟩⟩
  have HW0 : Sd (Below L w W0) := ⟨hbw.trans (hbW.mono (by omega))⟩
  have HT : Sd (L + 1 + 1 + 1 + 1 < T) := ⟨by omega⟩
  rw [hW0]
  clear c0 c1 c2 c3 c4 c5 c6 c7 c8 c9 hW0 h0 h1 h2 h3 h4 hbw hsz hbW hTb hFM hlF hl0 hT
  have tc := HS.out.2.2.2.2.cell (i := 0) rfl
  have f3 := HS.out.2.2.1.frozen
  have l3 := HS.out.2.2.1.lt
  have a3 := HS.out.2.2.1.at
  refine wp_region_still_tail 5 (by kernel_rfl) (by kernel_rfl) ?_
  change wpStill _ _ W0.drew _ _ _
  simp only [List.take_succ_cons, List.take_zero, List.drop_succ_cons, List.drop_zero]
  repeat still_step
  still_call ((H1.out _ _).mono fun _ _ h => ⟨h.1, h.2.symm⟩)
  repeat still_step
  refine wpStill_nil ?_
  change wpList _ _ _ _ _ W0.drew
  go_upto_region 7 with fail
  obtain ⟨W1, hW1⟩ : ∃ W1, (W0.setCell ⟨L + 1 + 1 + 1, 5, none⟩ (.int .u16 (mid : Int))).drew = W1 := ⟨_, rfl⟩
  have ho1 : Only W0 W1 (fun k => k = L + 1 + 1 + 1) := by rw [← hW1]; exact Only.drew (Only.setCell (Only.refl W0 (fun k => k = L + 1 + 1 + 1)) ⟨L + 1 + 1 + 1, 5, none⟩ _ (fun _ => rfl))
  have k3 := (HS.out.2.2.1.set 5 (.int .u16 (mid : Int))).drew
  rw [hW1] at k3
  simp only [List.setIfInBounds_toArray, List.set_cons_zero, List.set_cons_succ] at k3
  have hF1 : W1.cell? ⟨F, 0, none⟩ = some (.func (.func 74) #[] #[]) := (World.cell?_of_block (a := ⟨F, 0, none⟩) (ho1.block F (World.block_lt_of_cell? W0 _ hF0) (by have := HFL.out; show ¬ F = _; omega))).trans hF0
  have HS1 : Sd (Blk W1 (L + 1) _ _ ∧ Blk W1 (L + 1 + 1) _ _ ∧ Blk W1 (L + 1 + 1 + 1) _ _ ∧ Blk W1 (L + 1 + 1 + 1 + 1) _ _ ∧ Blk W1 T _ _) := ⟨⟨HS.out.1.only ho1 (by omega), HS.out.2.1.only ho1 (by omega), k3, HS.out.2.2.2.1.only ho1 (by omega), HS.out.2.2.2.2.only ho1 (by have := HT.out; omega)⟩⟩
  have HW1 : Sd (Below L w W1) := ⟨HW0.out.trans (ho1.below L (by rw [← HL.out]; exact HW0.out.size) (fun k hk => by omega))⟩
  rw [hW1]
  clear tc f3 l3 a3 hF0 hW1 k3 HS HW0 ho1
  have tc := HS1.out.2.2.2.2.cell (i := 0) rfl
  have f4 := HS1.out.2.2.2.1.frozen
  have l4 := HS1.out.2.2.2.1.lt
  have a4 := HS1.out.2.2.2.1.at
  refine wp_region_still_tail 6 (by kernel_rfl) (by kernel_rfl) ?_
  change wpStill _ _ W1.drew _ _ _
  simp only [List.take_succ_cons, List.take_zero, List.drop_succ_cons, List.drop_zero]
  repeat still_step
  still_call ((H1.out _ _).mono fun _ _ h => ⟨h.1, h.2.symm⟩)
  repeat still_step
  rw [EM1.out]
  repeat still_step
  refine wpStill_nil ?_
  change wpList _ _ _ _ _ W1.drew
  go_upto_region 8 with fail
  obtain ⟨W2, hW2⟩ : ∃ W2, (W1.setCell ⟨L + 1 + 1 + 1 + 1, 4, none⟩ (.int .u16 (m1 : Int))).drew = W2 := ⟨_, rfl⟩
  have ho2 : Only W1 W2 (fun k => k = L + 1 + 1 + 1 + 1) := by rw [← hW2]; exact Only.drew (Only.setCell (Only.refl W1 (fun k => k = L + 1 + 1 + 1 + 1)) ⟨L + 1 + 1 + 1 + 1, 4, none⟩ _ (fun _ => rfl))
  have k4 := (HS1.out.2.2.2.1.set 4 (.int .u16 (m1 : Int))).drew
  rw [hW2] at k4
  simp only [List.setIfInBounds_toArray, List.set_cons_zero, List.set_cons_succ] at k4
  have k3 := HS1.out.2.2.1.only ho2 (by omega)
  have HS2 := Sd.mk (And.intro (HS1.out.1.only ho2 (by omega)) (And.intro (HS1.out.2.1.only ho2 (by omega)) (HS1.out.2.2.2.2.only ho2 (by have := HT.out; omega))))
  have HW2 : Sd (Below L w W2) := ⟨HW1.out.trans (ho2.below L (by rw [← HL.out]; exact HW1.out.size) (fun k hk => by omega))⟩
  rw [hW2]
  clear tc f4 l4 a4 hF1 hW2 HS1 HW1 ho2
  have p3 := k3.at
  have p4 := k4.at
  have l3 := k3.lt
  have l4 := k4.lt
  have g1 := HS2.out.1.at
  have g2 := HS2.out.2.1.at
  have f1 := HS2.out.1.frozen
  have f2 := HS2.out.2.1.frozen
  have l1 := HS2.out.1.lt
  have l2 := HS2.out.2.1.lt
  clear k3 k4
  go_region
  clear p3 p4 l3 l4 g1 g2 f1 f2 l1 l2
  obtain ⟨V', hV⟩ : ∃ V', ((((((((((((((((((((W2.setCell ⟨L + 1, 0, none⟩ (.int .u32 b.src.lo)).setCell ⟨L + 1, 1, none⟩ (.int .u32 b.src.hi)).setCell ⟨L + 1, 2, none⟩ (.int .u32 b.dst.lo)).setCell ⟨L + 1, 3, none⟩ (.int .u32 b.dst.hi)).setCell ⟨L + 1, 4, none⟩ (.int .u16 b.sp.lo)).setCell ⟨L + 1, 5, none⟩ (.int .u16 (mid : Int))).setCell ⟨L + 1, 6, none⟩ (.int .u16 b.dp.lo)).setCell ⟨L + 1, 7, none⟩ (.int .u16 b.dp.hi)).setCell ⟨L + 1, 8, none⟩ (.int .u8 b.pr.v)).setCell ⟨L + 1, 9, none⟩ (.int .u8 b.pr.c)).setCell ⟨L + 1 + 1, 0, none⟩ (.int .u32 b.src.lo)).setCell ⟨L + 1 + 1, 1, none⟩ (.int .u32 b.src.hi)).setCell ⟨L + 1 + 1, 2, none⟩ (.int .u32 b.dst.lo)).setCell ⟨L + 1 + 1, 3, none⟩ (.int .u32 b.dst.hi)).setCell ⟨L + 1 + 1, 4, none⟩ (.int .u16 (m1 : Int))).setCell ⟨L + 1 + 1, 5, none⟩ (.int .u16 b.sp.hi)).setCell ⟨L + 1 + 1, 6, none⟩ (.int .u16 b.dp.lo)).setCell ⟨L + 1 + 1, 7, none⟩ (.int .u16 b.dp.hi)).setCell ⟨L + 1 + 1, 8, none⟩ (.int .u8 b.pr.v)).setCell ⟨L + 1 + 1, 9, none⟩ (.int .u8 b.pr.c)).drew = V' := ⟨_, rfl⟩
  obtain ⟨k1, k2, ho⟩ := fill2 HS2.out.1 HS2.out.2.1 (by omega) hV
  rw [hV]
  have HO : Sd (Below L w V') := ⟨HW2.out.trans (ho.below L (by rw [← HL.out]; exact HW2.out.size) (fun k hk => by omega))⟩
  have HTc := Sd.mk (HS2.out.2.2.only ho (by have := HT.out; omega))
  obtain ⟨c0, c1, c2, c3, c4, c5, c6, c7, c8, c9⟩ := show V'.cell? ⟨L + 1, 0, none⟩ = some (.int .u32 b.src.lo) ∧ V'.cell? ⟨L + 1, 1, none⟩ = some (.int .u32 b.src.hi) ∧ V'.cell? ⟨L + 1, 2, none⟩ = some (.int .u32 b.dst.lo) ∧ V'.cell? ⟨L + 1, 3, none⟩ = some (.int .u32 b.dst.hi) ∧ V'.cell? ⟨L + 1, 4, none⟩ = some (.int .u16 b.sp.lo) ∧ V'.cell? ⟨L + 1, 5, none⟩ = some (.int .u16 (mid : Int)) ∧ V'.cell? ⟨L + 1, 6, none⟩ = some (.int .u16 b.dp.lo) ∧ V'.cell? ⟨L + 1, 7, none⟩ = some (.int .u16 b.dp.hi) ∧ V'.cell? ⟨L + 1, 8, none⟩ = some (.int .u8 b.pr.v) ∧ V'.cell? ⟨L + 1, 9, none⟩ = some (.int .u8 b.pr.c) from ⟨k1.cell (i := 0) rfl, k1.cell (i := 1) rfl, k1.cell (i := 2) rfl, k1.cell (i := 3) rfl, k1.cell (i := 4) rfl, k1.cell (i := 5) rfl, k1.cell (i := 6) rfl, k1.cell (i := 7) rfl, k1.cell (i := 8) rfl, k1.cell (i := 9) rfl⟩
  obtain ⟨d0, d1, d2, d3, d4, d5, d6, d7, d8, d9⟩ := show V'.cell? ⟨L + 1 + 1, 0, none⟩ = some (.int .u32 b.src.lo) ∧ V'.cell? ⟨L + 1 + 1, 1, none⟩ = some (.int .u32 b.src.hi) ∧ V'.cell? ⟨L + 1 + 1, 2, none⟩ = some (.int .u32 b.dst.lo) ∧ V'.cell? ⟨L + 1 + 1, 3, none⟩ = some (.int .u32 b.dst.hi) ∧ V'.cell? ⟨L + 1 + 1, 4, none⟩ = some (.int .u16 (m1 : Int)) ∧ V'.cell? ⟨L + 1 + 1, 5, none⟩ = some (.int .u16 b.sp.hi) ∧ V'.cell? ⟨L + 1 + 1, 6, none⟩ = some (.int .u16 b.dp.lo) ∧ V'.cell? ⟨L + 1 + 1, 7, none⟩ = some (.int .u16 b.dp.hi) ∧ V'.cell? ⟨L + 1 + 1, 8, none⟩ = some (.int .u8 b.pr.v) ∧ V'.cell? ⟨L + 1 + 1, 9, none⟩ = some (.int .u8 b.pr.c) from ⟨k2.cell (i := 0) rfl, k2.cell (i := 1) rfl, k2.cell (i := 2) rfl, k2.cell (i := 3) rfl, k2.cell (i := 4) rfl, k2.cell (i := 5) rfl, k2.cell (i := 6) rfl, k2.cell (i := 7) rfl, k2.cell (i := 8) rfl, k2.cell (i := 9) rfl⟩
  clear k1 k2 ho hV
  go_wp2
  refine bodyPost_ret (v := .tuple #[.agg #[.int .u32 b.src.lo, .int .u32 b.src.hi, .int .u32 b.dst.lo, .int .u32 b.dst.hi, .int .u16 b.sp.lo, .int .u16 (mid : Int), .int .u16 b.dp.lo, .int .u16 b.dp.hi, .int .u8 b.pr.v, .int .u8 b.pr.c], .agg #[.int .u32 b.src.lo, .int .u32 b.src.hi, .int .u32 b.dst.lo, .int .u32 b.dst.hi, .int .u16 (m1 : Int), .int .u16 b.sp.hi, .int .u16 b.dp.lo, .int .u16 b.dp.hi, .int .u8 b.pr.v, .int .u8 b.pr.c], .func (.func 94) #[] #[.pointer (some ⟨O, 0, none⟩), .pointer (some ⟨T, 0, none⟩)], .bool true]) (by simp [results, Try.results93, go_sem, *]) rfl ⟨T, rfl, by rw [HL.out]; have := HT.out; omega, HTc.out, by rw [HL.out]; exact HO.out⟩
set_option maxHeartbeats 2000000 in
set_option maxRecDepth 100000 in
theorem cut3_no (b : Bx) (F O : Nat) (w : World) (hF : w.cell? ⟨F, 0, none⟩ = some (.func (.func 76) #[] #[])) (he : b.dp.lo = b.dp.hi) :
    Calls Try.prog 93 #[.agg #[.int .u32 b.src.lo, .int .u32 b.src.hi, .int .u32 b.dst.lo, .int .u32 b.dst.hi, .int .u16 b.sp.lo, .int .u16 b.sp.hi, .int .u16 b.dp.lo, .int .u16 b.dp.hi, .int .u8 b.pr.v, .int .u8 b.pr.c], .pointer (some ⟨F, 0, none⟩), .pointer (some ⟨O, 0, none⟩)] w fun e w' => e = .returned (.tuple #[.agg #[.int .u32 b.src.lo, .int .u32 b.src.hi, .int .u32 b.dst.lo, .int .u32 b.dst.hi, .int .u16 b.sp.lo, .int .u16 b.sp.hi, .int .u16 b.dp.lo, .int .u16 b.dp.hi, .int .u8 b.pr.v, .int .u8 b.pr.c], .agg #[.int .u32 b.src.lo, .int .u32 b.src.hi, .int .u32 b.dst.lo, .int .u32 b.dst.hi, .int .u16 b.sp.lo, .int .u16 b.sp.hi, .int .u16 b.dp.lo, .int .u16 b.dp.hi, .int .u8 b.pr.v, .int .u8 b.pr.c], .nilFunc, .bool false]) ∧ Below w.heap.size w w' := by
  have ht : ((b.dp.lo : Int) == (b.dp.hi : Int)) = true := by simp [he]
  clear he
  obtain ⟨M, hM⟩ : ∃ M, ((((w.alloc (.cells #[.int .u32 b.src.lo, .int .u32 b.src.hi, .int .u32 b.dst.lo, .int .u32 b.dst.hi, .int .u16 b.sp.lo, .int .u16 b.sp.hi, .int .u16 b.dp.lo, .int .u16 b.dp.hi, .int .u8 b.pr.v, .int .u8 b.pr.c] 109)).alloc (.cells #[.int .u32 0, .int .u32 0, .int .u32 0, .int .u32 0, .int .u16 0, .int .u16 0, .int .u16 0, .int .u16 0, .int .u8 0, .int .u8 0] 109)).alloc (.cells #[.int .u32 0, .int .u32 0, .int .u32 0, .int .u32 0, .int .u16 0, .int .u16 0, .int .u16 0, .int .u16 0, .int .u8 0, .int .u8 0] 109)).alloc (.cells #[.int .u32 b.src.lo, .int .u32 b.src.hi, .int .u32 b.dst.lo, .int .u32 b.dst.hi, .int .u16 b.sp.lo, .int .u16 b.sp.hi, .int .u16 b.dp.lo, .int .u16 b.dp.hi, .int .u8 b.pr.v, .int .u8 b.pr.c] 109)).alloc (.cells #[.int .u32 b.src.lo, .int .u32 b.src.hi, .int .u32 b.dst.lo, .int .u32 b.dst.hi, .int .u16 b.sp.lo, .int .u16 b.sp.hi, .int .u16 b.dp.lo, .int .u16 b.dp.hi, .int .u8 b.pr.v, .int .u8 b.pr.c] 109) = M := ⟨_, rfl⟩
  obtain ⟨hfv, hbw, hsz⟩ := five _ _ _ _ _ _ _ _ hM
  obtain ⟨L, hL⟩ : ∃ L, w.heap.size = L := ⟨_, rfl⟩
  rw [hL] at hfv hbw hsz
  have HM := Sd.mk hM
  have HL := Sd.mk hL
  have hFM := (hbw.cell (by rw [← hL]; exact World.block_lt_of_cell? w _ hF)).trans hF
  have HFL : Sd (F < L) := ⟨by rw [← hL]; exact World.block_lt_of_cell? w _ hF⟩
  have H1 := Sd.mk (fun g W => field3_any g W)
  have HB := Sd.mk (And.intro hbw (And.intro hsz hfv))
  clear hM hF hsz hbw
  go_enter Try.func93, Try.ntmps93
  go_upto_region 2 with fail
  rw [HM.out]
  try rw [HL.out]
  have hb0 := hfv.1
  obtain ⟨c0, c1, c2, c3, c4, c5, c6, c7, c8, c9⟩ := show M.cell? ⟨L, 0, none⟩ = some (.int .u32 b.src.lo) ∧ M.cell? ⟨L, 1, none⟩ = some (.int .u32 b.src.hi) ∧ M.cell? ⟨L, 2, none⟩ = some (.int .u32 b.dst.lo) ∧ M.cell? ⟨L, 3, none⟩ = some (.int .u32 b.dst.hi) ∧ M.cell? ⟨L, 4, none⟩ = some (.int .u16 b.sp.lo) ∧ M.cell? ⟨L, 5, none⟩ = some (.int .u16 b.sp.hi) ∧ M.cell? ⟨L, 6, none⟩ = some (.int .u16 b.dp.lo) ∧ M.cell? ⟨L, 7, none⟩ = some (.int .u16 b.dp.hi) ∧ M.cell? ⟨L, 8, none⟩ = some (.int .u8 b.pr.v) ∧ M.cell? ⟨L, 9, none⟩ = some (.int .u8 b.pr.c) from ⟨hb0.cell (i := 0) rfl, hb0.cell (i := 1) rfl, hb0.cell (i := 2) rfl, hb0.cell (i := 3) rfl, hb0.cell (i := 4) rfl, hb0.cell (i := 5) rfl, hb0.cell (i := 6) rfl, hb0.cell (i := 7) rfl, hb0.cell (i := 8) rfl, hb0.cell (i := 9) rfl⟩
  have hlF := World.block_lt_of_cell? M _ hFM
  have hl0 := hb0.lt
  simp only [] at hlF
  clear hb0 hfv hL
  go_wp2_with fail
  refine (H1.out _ _).mono ?_
  rintro e w1 ⟨rfl, rfl⟩
  go_upto_region 4 with fail
  obtain ⟨W0, hW0⟩ : ∃ W0, M.alloc (.cells #[.int .u16 b.dp.lo, .int .u16 b.dp.hi] 56) = W0 := ⟨_, rfl⟩
  have hbW : Below M.heap.size M W0 := by rw [← hW0]; exact (Below.refl _ _).alloc (Nat.le_refl _) _
  obtain ⟨hbw, hsz, h0, h1, h2, _⟩ := HB.out
  have hB0 := h0.below hbW h0.lt
  have hB1 := h1.below hbW h1.lt
  have hB2 := h2.below hbW h2.lt
  have HW := Sd.mk (And.intro (show Below L w W0 from hbw.trans (hbW.mono (by omega))) (And.intro hB1 hB2))
  rw [hW0]
  clear c0 c1 c2 c3 c4 c5 c6 c7 c8 c9 hW0 h0 h1 h2 hbw hsz
  obtain ⟨c0, c1, c2, c3, c4, c5, c6, c7, c8, c9⟩ := show W0.cell? ⟨L, 0, none⟩ = some (.int .u32 b.src.lo) ∧ W0.cell? ⟨L, 1, none⟩ = some (.int .u32 b.src.hi) ∧ W0.cell? ⟨L, 2, none⟩ = some (.int .u32 b.dst.lo) ∧ W0.cell? ⟨L, 3, none⟩ = some (.int .u32 b.dst.hi) ∧ W0.cell? ⟨L, 4, none⟩ = some (.int .u16 b.sp.lo) ∧ W0.cell? ⟨L, 5, none⟩ = some (.int .u16 b.sp.hi) ∧ W0.cell? ⟨L, 6, none⟩ = some (.int .u16 b.dp.lo) ∧ W0.cell? ⟨L, 7, none⟩ = some (.int .u16 b.dp.hi) ∧ W0.cell? ⟨L, 8, none⟩ = some (.int .u8 b.pr.v) ∧ W0.cell? ⟨L, 9, none⟩ = some (.int .u8 b.pr.c) from ⟨hB0.cell (i := 0) rfl, hB0.cell (i := 1) rfl, hB0.cell (i := 2) rfl, hB0.cell (i := 3) rfl, hB0.cell (i := 4) rfl, hB0.cell (i := 5) rfl, hB0.cell (i := 6) rfl, hB0.cell (i := 7) rfl, hB0.cell (i := 8) rfl, hB0.cell (i := 9) rfl⟩
  have g1 := hB1.at
  have g2 := hB2.at
  have f1 := hB1.frozen
  have f2 := hB2.frozen
  have l0 := hB0.lt
  have l1 := hB1.lt
  have l2 := hB2.lt
  clear hbW hB0 hB1 hB2
  go_region
  clear c0 c1 c2 c3 c4 c5 c6 c7 c8 c9 g1 g2 f1 f2 l0 l1 l2
  obtain ⟨V', hV⟩ : ∃ V', ((((((((((((((((((((W0.setCell ⟨L + 1, 0, none⟩ (.int .u32 b.src.lo)).setCell ⟨L + 1, 1, none⟩ (.int .u32 b.src.hi)).setCell ⟨L + 1, 2, none⟩ (.int .u32 b.dst.lo)).setCell ⟨L + 1, 3, none⟩ (.int .u32 b.dst.hi)).setCell ⟨L + 1, 4, none⟩ (.int .u16 b.sp.lo)).setCell ⟨L + 1, 5, none⟩ (.int .u16 b.sp.hi)).setCell ⟨L + 1, 6, none⟩ (.int .u16 b.dp.lo)).setCell ⟨L + 1, 7, none⟩ (.int .u16 b.dp.hi)).setCell ⟨L + 1, 8, none⟩ (.int .u8 b.pr.v)).setCell ⟨L + 1, 9, none⟩ (.int .u8 b.pr.c)).setCell ⟨L + 1 + 1, 0, none⟩ (.int .u32 b.src.lo)).setCell ⟨L + 1 + 1, 1, none⟩ (.int .u32 b.src.hi)).setCell ⟨L + 1 + 1, 2, none⟩ (.int .u32 b.dst.lo)).setCell ⟨L + 1 + 1, 3, none⟩ (.int .u32 b.dst.hi)).setCell ⟨L + 1 + 1, 4, none⟩ (.int .u16 b.sp.lo)).setCell ⟨L + 1 + 1, 5, none⟩ (.int .u16 b.sp.hi)).setCell ⟨L + 1 + 1, 6, none⟩ (.int .u16 b.dp.lo)).setCell ⟨L + 1 + 1, 7, none⟩ (.int .u16 b.dp.hi)).setCell ⟨L + 1 + 1, 8, none⟩ (.int .u8 b.pr.v)).setCell ⟨L + 1 + 1, 9, none⟩ (.int .u8 b.pr.c)).drew = V' := ⟨_, rfl⟩
  obtain ⟨k1, k2, ho⟩ := fill2 HW.out.2.1 HW.out.2.2 (by omega) hV
  rw [hV]
  have HO : Sd (Below L w V') := ⟨HW.out.1.trans (ho.below L (by rw [← HL.out]; exact HW.out.1.size) (fun k hk => by omega))⟩
  obtain ⟨c0, c1, c2, c3, c4, c5, c6, c7, c8, c9⟩ := show V'.cell? ⟨L + 1, 0, none⟩ = some (.int .u32 b.src.lo) ∧ V'.cell? ⟨L + 1, 1, none⟩ = some (.int .u32 b.src.hi) ∧ V'.cell? ⟨L + 1, 2, none⟩ = some (.int .u32 b.dst.lo) ∧ V'.cell? ⟨L + 1, 3, none⟩ = some (.int .u32 b.dst.hi) ∧ V'.cell? ⟨L + 1, 4, none⟩ = some (.int .u16 b.sp.lo) ∧ V'.cell? ⟨L + 1, 5, none⟩ = some (.int .u16 b.sp.hi) ∧ V'.cell? ⟨L + 1, 6, none⟩ = some (.int .u16 b.dp.lo) ∧ V'.cell? ⟨L + 1, 7, none⟩ = some (.int .u16 b.dp.hi) ∧ V'.cell? ⟨L + 1, 8, none⟩ = some (.int .u8 b.pr.v) ∧ V'.cell? ⟨L + 1, 9, none⟩ = some (.int .u8 b.pr.c) from ⟨k1.cell (i := 0) rfl, k1.cell (i := 1) rfl, k1.cell (i := 2) rfl, k1.cell (i := 3) rfl, k1.cell (i := 4) rfl, k1.cell (i := 5) rfl, k1.cell (i := 6) rfl, k1.cell (i := 7) rfl, k1.cell (i := 8) rfl, k1.cell (i := 9) rfl⟩
  obtain ⟨d0, d1, d2, d3, d4, d5, d6, d7, d8, d9⟩ := show V'.cell? ⟨L + 1 + 1, 0, none⟩ = some (.int .u32 b.src.lo) ∧ V'.cell? ⟨L + 1 + 1, 1, none⟩ = some (.int .u32 b.src.hi) ∧ V'.cell? ⟨L + 1 + 1, 2, none⟩ = some (.int .u32 b.dst.lo) ∧ V'.cell? ⟨L + 1 + 1, 3, none⟩ = some (.int .u32 b.dst.hi) ∧ V'.cell? ⟨L + 1 + 1, 4, none⟩ = some (.int .u16 b.sp.lo) ∧ V'.cell? ⟨L + 1 + 1, 5, none⟩ = some (.int .u16 b.sp.hi) ∧ V'.cell? ⟨L + 1 + 1, 6, none⟩ = some (.int .u16 b.dp.lo) ∧ V'.cell? ⟨L + 1 + 1, 7, none⟩ = some (.int .u16 b.dp.hi) ∧ V'.cell? ⟨L + 1 + 1, 8, none⟩ = some (.int .u8 b.pr.v) ∧ V'.cell? ⟨L + 1 + 1, 9, none⟩ = some (.int .u8 b.pr.c) from ⟨k2.cell (i := 0) rfl, k2.cell (i := 1) rfl, k2.cell (i := 2) rfl, k2.cell (i := 3) rfl, k2.cell (i := 4) rfl, k2.cell (i := 5) rfl, k2.cell (i := 6) rfl, k2.cell (i := 7) rfl, k2.cell (i := 8) rfl, k2.cell (i := 9) rfl⟩
  clear k1 k2 ho hV
  go_wp2
  refine bodyPost_ret (v := .tuple #[.agg #[.int .u32 b.src.lo, .int .u32 b.src.hi, .int .u32 b.dst.lo, .int .u32 b.dst.hi, .int .u16 b.sp.lo, .int .u16 b.sp.hi, .int .u16 b.dp.lo, .int .u16 b.dp.hi, .int .u8 b.pr.v, .int .u8 b.pr.c], .agg #[.int .u32 b.src.lo, .int .u32 b.src.hi, .int .u32 b.dst.lo, .int .u32 b.dst.hi, .int .u16 b.sp.lo, .int .u16 b.sp.hi, .int .u16 b.dp.lo, .int .u16 b.dp.hi, .int .u8 b.pr.v, .int .u8 b.pr.c], .nilFunc, .bool false]) (by simp [results, Try.results93, go_sem, *]) rfl ⟨rfl, by rw [HL.out]; exact HO.out⟩
set_option maxHeartbeats 2000000 in
set_option maxRecDepth 100000 in
theorem cut3_ok (b : Bx) (F O mid m1 : Nat) (w : World) (hF : w.cell? ⟨F, 0, none⟩ = some (.func (.func 76) #[] #[])) (he : b.dp.lo < b.dp.hi) (hh : b.dp.hi < 65536) (hm : mid = b.dp.lo + (b.dp.hi - b.dp.lo) / 2) (hm1 : m1 = mid + 1) :
    Calls Try.prog 93 #[.agg #[.int .u32 b.src.lo, .int .u32 b.src.hi, .int .u32 b.dst.lo, .int .u32 b.dst.hi, .int .u16 b.sp.lo, .int .u16 b.sp.hi, .int .u16 b.dp.lo, .int .u16 b.dp.hi, .int .u8 b.pr.v, .int .u8 b.pr.c], .pointer (some ⟨F, 0, none⟩), .pointer (some ⟨O, 0, none⟩)] w fun e w' => ∃ T, e = .returned (.tuple #[.agg #[.int .u32 b.src.lo, .int .u32 b.src.hi, .int .u32 b.dst.lo, .int .u32 b.dst.hi, .int .u16 b.sp.lo, .int .u16 b.sp.hi, .int .u16 b.dp.lo, .int .u16 (mid : Int), .int .u8 b.pr.v, .int .u8 b.pr.c], .agg #[.int .u32 b.src.lo, .int .u32 b.src.hi, .int .u32 b.dst.lo, .int .u32 b.dst.hi, .int .u16 b.sp.lo, .int .u16 b.sp.hi, .int .u16 (m1 : Int), .int .u16 b.dp.hi, .int .u8 b.pr.v, .int .u8 b.pr.c], .func (.func 94) #[] #[.pointer (some ⟨O, 0, none⟩), .pointer (some ⟨T, 0, none⟩)], .bool true]) ∧ w.heap.size ≤ T ∧ Blk w' T #[.int .u16 (mid : Int)] 26 ∧ Below w.heap.size w w' := by
  have ht : ((b.dp.lo : Int) == (b.dp.hi : Int)) = false := by rw [beq_eq_false_iff_ne]; omega
  have EM : Sd (IntKind.u16.wrap ((b.dp.lo : Int) + IntKind.u16.wrap (((b.dp.hi : Int) - (b.dp.lo : Int)).tdiv 2)) = (mid : Int)) := ⟨by rw [Int.tdiv_eq_ediv_of_nonneg (by omega), IntKind.wrap_u16, IntKind.wrap_u16]; omega⟩
  have HMI : Sd (mid < b.dp.hi) := ⟨by omega⟩
  have EM1 : Sd (IntKind.u16.wrap ((mid : Int) + 1) = (m1 : Int)) := ⟨by rw [IntKind.wrap_u16]; omega⟩
  clear hm hm1
  obtain ⟨M, hM⟩ : ∃ M, ((((w.alloc (.cells #[.int .u32 b.src.lo, .int .u32 b.src.hi, .int .u32 b.dst.lo, .int .u32 b.dst.hi, .int .u16 b.sp.lo, .int .u16 b.sp.hi, .int .u16 b.dp.lo, .int .u16 b.dp.hi, .int .u8 b.pr.v, .int .u8 b.pr.c] 109)).alloc (.cells #[.int .u32 0, .int .u32 0, .int .u32 0, .int .u32 0, .int .u16 0, .int .u16 0, .int .u16 0, .int .u16 0, .int .u8 0, .int .u8 0] 109)).alloc (.cells #[.int .u32 0, .int .u32 0, .int .u32 0, .int .u32 0, .int .u16 0, .int .u16 0, .int .u16 0, .int .u16 0, .int .u8 0, .int .u8 0] 109)).alloc (.cells #[.int .u32 b.src.lo, .int .u32 b.src.hi, .int .u32 b.dst.lo, .int .u32 b.dst.hi, .int .u16 b.sp.lo, .int .u16 b.sp.hi, .int .u16 b.dp.lo, .int .u16 b.dp.hi, .int .u8 b.pr.v, .int .u8 b.pr.c] 109)).alloc (.cells #[.int .u32 b.src.lo, .int .u32 b.src.hi, .int .u32 b.dst.lo, .int .u32 b.dst.hi, .int .u16 b.sp.lo, .int .u16 b.sp.hi, .int .u16 b.dp.lo, .int .u16 b.dp.hi, .int .u8 b.pr.v, .int .u8 b.pr.c] 109) = M := ⟨_, rfl⟩
  obtain ⟨hfv, hbw, hsz⟩ := five _ _ _ _ _ _ _ _ hM
  obtain ⟨L, hL⟩ : ∃ L, w.heap.size = L := ⟨_, rfl⟩
  rw [hL] at hfv hbw hsz
  have HM := Sd.mk hM
  have HL := Sd.mk hL
  have hFM := (hbw.cell (by rw [← hL]; exact World.block_lt_of_cell? w _ hF)).trans hF
  have HFL : Sd (F < L) := ⟨by rw [← hL]; exact World.block_lt_of_cell? w _ hF⟩
  have H1 := Sd.mk (fun g W => field3_any g W)
  have HB := Sd.mk (And.intro hbw (And.intro hsz hfv))
  clear hM hF hsz hbw
  go_enter Try.func93, Try.ntmps93
  go_upto_region 2 with fail
  rw [HM.out]
  try rw [HL.out]
  have hb0 := hfv.1
  obtain ⟨c0, c1, c2, c3, c4, c5, c6, c7, c8, c9⟩ := show M.cell? ⟨L, 0, none⟩ = some (.int .u32 b.src.lo) ∧ M.cell? ⟨L, 1, none⟩ = some (.int .u32 b.src.hi) ∧ M.cell? ⟨L, 2, none⟩ = some (.int .u32 b.dst.lo) ∧ M.cell? ⟨L, 3, none⟩ = some (.int .u32 b.dst.hi) ∧ M.cell? ⟨L, 4, none⟩ = some (.int .u16 b.sp.lo) ∧ M.cell? ⟨L, 5, none⟩ = some (.int .u16 b.sp.hi) ∧ M.cell? ⟨L, 6, none⟩ = some (.int .u16 b.dp.lo) ∧ M.cell? ⟨L, 7, none⟩ = some (.int .u16 b.dp.hi) ∧ M.cell? ⟨L, 8, none⟩ = some (.int .u8 b.pr.v) ∧ M.cell? ⟨L, 9, none⟩ = some (.int .u8 b.pr.c) from ⟨hb0.cell (i := 0) rfl, hb0.cell (i := 1) rfl, hb0.cell (i := 2) rfl, hb0.cell (i := 3) rfl, hb0.cell (i := 4) rfl, hb0.cell (i := 5) rfl, hb0.cell (i := 6) rfl, hb0.cell (i := 7) rfl, hb0.cell (i := 8) rfl, hb0.cell (i := 9) rfl⟩
  have hlF := World.block_lt_of_cell? M _ hFM
  have hl0 := hb0.lt
  simp only [] at hlF
  clear hb0 hfv hL
  go_wp2_with fail
  refine (H1.out _ _).mono ?_
  rintro e w1 ⟨rfl, rfl⟩
  go_upto_region 6 with fail
  rw [EM.out]
  obtain ⟨T, hT⟩ : ∃ T, M.heap.size + 1 = T := ⟨_, rfl⟩
  rw [hT]
  obtain ⟨W0, hW0⟩ : ∃ W0, (M.alloc (.cells #[.int .u16 b.dp.lo, .int .u16 b.dp.hi] 56)).alloc (.cells #[.int .u16 (mid : Int)] 26) = W0 := ⟨_, rfl⟩
  have hbW : Below M.heap.size M W0 := by rw [← hW0]; exact below_alloc (below_alloc (Below.refl _ _) _) _
  have hTb : Blk W0 T #[.int .u16 (mid : Int)] 26 := by rw [← hW0]; exact blkN (by simp [hT]) _ _
  obtain ⟨hbw, hsz, h0, h1, h2, h3, h4⟩ := HB.out
  have hF0 := (hbW.cell hlF).trans hFM
  have HS : Sd (Blk W0 (L + 1) _ _ ∧ Blk W0 (L + 1 + 1) _ _ ∧ Blk W0 (L + 1 + 1 + 1) _ _ ∧ Blk W0 (L + 1 + 1 + 1 + 1) _ _ ∧ Blk W0 T _ _) := ⟨⟨h1.below hbW h1.lt, h2.below hbW h2.lt, h3.below hbW h3.lt, h4.below hbW h4.lt, hTb⟩⟩
  have HW0 : Sd (Below L w W0) := ⟨hbw.trans (hbW.mono (by omega))⟩
  have HT : Sd (L + 1 + 1 + 1 + 1 < T) := ⟨by omega⟩
  rw [hW0]
  clear c0 c1 c2 c3 c4 c5 c6 c7 c8 c9 hW0 h0 h1 h2 h3 h4 hbw hsz hbW hTb hFM hlF hl0 hT
  have tc := HS.out.2.2.2.2.cell (i := 0) rfl
  have f3 := HS.out.2.2.1.frozen
  have l3 := HS.out.2.2.1.lt
  have a3 := HS.out.2.2.1.at
  refine wp_region_still_tail 5 (by kernel_rfl) (by kernel_rfl) ?_
  change wpStill _ _ W0.drew _ _ _
  simp only [List.take_succ_cons, List.take_zero, List.drop_succ_cons, List.drop_zero]
  repeat still_step
  still_call ((H1.out _ _).mono fun _ _ h => ⟨h.1, h.2.symm⟩)
  repeat still_step
  refine wpStill_nil ?_
  change wpList _ _ _ _ _ W0.drew
  go_upto_region 7 with fail
  obtain ⟨W1, hW1⟩ : ∃ W1, (W0.setCell ⟨L + 1 + 1 + 1, 7, none⟩ (.int .u16 (mid : Int))).drew = W1 := ⟨_, rfl⟩
  have ho1 : Only W0 W1 (fun k => k = L + 1 + 1 + 1) := by rw [← hW1]; exact Only.drew (Only.setCell (Only.refl W0 (fun k => k = L + 1 + 1 + 1)) ⟨L + 1 + 1 + 1, 7, none⟩ _ (fun _ => rfl))
  have k3 := (HS.out.2.2.1.set 7 (.int .u16 (mid : Int))).drew
  rw [hW1] at k3
  simp only [List.setIfInBounds_toArray, List.set_cons_zero, List.set_cons_succ] at k3
  have hF1 : W1.cell? ⟨F, 0, none⟩ = some (.func (.func 76) #[] #[]) := (World.cell?_of_block (a := ⟨F, 0, none⟩) (ho1.block F (World.block_lt_of_cell? W0 _ hF0) (by have := HFL.out; show ¬ F = _; omega))).trans hF0
  have HS1 : Sd (Blk W1 (L + 1) _ _ ∧ Blk W1 (L + 1 + 1) _ _ ∧ Blk W1 (L + 1 + 1 + 1) _ _ ∧ Blk W1 (L + 1 + 1 + 1 + 1) _ _ ∧ Blk W1 T _ _) := ⟨⟨HS.out.1.only ho1 (by omega), HS.out.2.1.only ho1 (by omega), k3, HS.out.2.2.2.1.only ho1 (by omega), HS.out.2.2.2.2.only ho1 (by have := HT.out; omega)⟩⟩
  have HW1 : Sd (Below L w W1) := ⟨HW0.out.trans (ho1.below L (by rw [← HL.out]; exact HW0.out.size) (fun k hk => by omega))⟩
  rw [hW1]
  clear tc f3 l3 a3 hF0 hW1 k3 HS HW0 ho1
  have tc := HS1.out.2.2.2.2.cell (i := 0) rfl
  have f4 := HS1.out.2.2.2.1.frozen
  have l4 := HS1.out.2.2.2.1.lt
  have a4 := HS1.out.2.2.2.1.at
  refine wp_region_still_tail 6 (by kernel_rfl) (by kernel_rfl) ?_
  change wpStill _ _ W1.drew _ _ _
  simp only [List.take_succ_cons, List.take_zero, List.drop_succ_cons, List.drop_zero]
  repeat still_step
  still_call ((H1.out _ _).mono fun _ _ h => ⟨h.1, h.2.symm⟩)
  repeat still_step
  rw [EM1.out]
  repeat still_step
  refine wpStill_nil ?_
  change wpList _ _ _ _ _ W1.drew
  go_upto_region 8 with fail
  obtain ⟨W2, hW2⟩ : ∃ W2, (W1.setCell ⟨L + 1 + 1 + 1 + 1, 6, none⟩ (.int .u16 (m1 : Int))).drew = W2 := ⟨_, rfl⟩
  have ho2 : Only W1 W2 (fun k => k = L + 1 + 1 + 1 + 1) := by rw [← hW2]; exact Only.drew (Only.setCell (Only.refl W1 (fun k => k = L + 1 + 1 + 1 + 1)) ⟨L + 1 + 1 + 1 + 1, 6, none⟩ _ (fun _ => rfl))
  have k4 := (HS1.out.2.2.2.1.set 6 (.int .u16 (m1 : Int))).drew
  rw [hW2] at k4
  simp only [List.setIfInBounds_toArray, List.set_cons_zero, List.set_cons_succ] at k4
  have k3 := HS1.out.2.2.1.only ho2 (by omega)
  have HS2 := Sd.mk (And.intro (HS1.out.1.only ho2 (by omega)) (And.intro (HS1.out.2.1.only ho2 (by omega)) (HS1.out.2.2.2.2.only ho2 (by have := HT.out; omega))))
  have HW2 : Sd (Below L w W2) := ⟨HW1.out.trans (ho2.below L (by rw [← HL.out]; exact HW1.out.size) (fun k hk => by omega))⟩
  rw [hW2]
  clear tc f4 l4 a4 hF1 hW2 HS1 HW1 ho2
  have p3 := k3.at
  have p4 := k4.at
  have l3 := k3.lt
  have l4 := k4.lt
  have g1 := HS2.out.1.at
  have g2 := HS2.out.2.1.at
  have f1 := HS2.out.1.frozen
  have f2 := HS2.out.2.1.frozen
  have l1 := HS2.out.1.lt
  have l2 := HS2.out.2.1.lt
  clear k3 k4
  go_region
  clear p3 p4 l3 l4 g1 g2 f1 f2 l1 l2
  obtain ⟨V', hV⟩ : ∃ V', ((((((((((((((((((((W2.setCell ⟨L + 1, 0, none⟩ (.int .u32 b.src.lo)).setCell ⟨L + 1, 1, none⟩ (.int .u32 b.src.hi)).setCell ⟨L + 1, 2, none⟩ (.int .u32 b.dst.lo)).setCell ⟨L + 1, 3, none⟩ (.int .u32 b.dst.hi)).setCell ⟨L + 1, 4, none⟩ (.int .u16 b.sp.lo)).setCell ⟨L + 1, 5, none⟩ (.int .u16 b.sp.hi)).setCell ⟨L + 1, 6, none⟩ (.int .u16 b.dp.lo)).setCell ⟨L + 1, 7, none⟩ (.int .u16 (mid : Int))).setCell ⟨L + 1, 8, none⟩ (.int .u8 b.pr.v)).setCell ⟨L + 1, 9, none⟩ (.int .u8 b.pr.c)).setCell ⟨L + 1 + 1, 0, none⟩ (.int .u32 b.src.lo)).setCell ⟨L + 1 + 1, 1, none⟩ (.int .u32 b.src.hi)).setCell ⟨L + 1 + 1, 2, none⟩ (.int .u32 b.dst.lo)).setCell ⟨L + 1 + 1, 3, none⟩ (.int .u32 b.dst.hi)).setCell ⟨L + 1 + 1, 4, none⟩ (.int .u16 b.sp.lo)).setCell ⟨L + 1 + 1, 5, none⟩ (.int .u16 b.sp.hi)).setCell ⟨L + 1 + 1, 6, none⟩ (.int .u16 (m1 : Int))).setCell ⟨L + 1 + 1, 7, none⟩ (.int .u16 b.dp.hi)).setCell ⟨L + 1 + 1, 8, none⟩ (.int .u8 b.pr.v)).setCell ⟨L + 1 + 1, 9, none⟩ (.int .u8 b.pr.c)).drew = V' := ⟨_, rfl⟩
  obtain ⟨k1, k2, ho⟩ := fill2 HS2.out.1 HS2.out.2.1 (by omega) hV
  rw [hV]
  have HO : Sd (Below L w V') := ⟨HW2.out.trans (ho.below L (by rw [← HL.out]; exact HW2.out.size) (fun k hk => by omega))⟩
  have HTc := Sd.mk (HS2.out.2.2.only ho (by have := HT.out; omega))
  obtain ⟨c0, c1, c2, c3, c4, c5, c6, c7, c8, c9⟩ := show V'.cell? ⟨L + 1, 0, none⟩ = some (.int .u32 b.src.lo) ∧ V'.cell? ⟨L + 1, 1, none⟩ = some (.int .u32 b.src.hi) ∧ V'.cell? ⟨L + 1, 2, none⟩ = some (.int .u32 b.dst.lo) ∧ V'.cell? ⟨L + 1, 3, none⟩ = some (.int .u32 b.dst.hi) ∧ V'.cell? ⟨L + 1, 4, none⟩ = some (.int .u16 b.sp.lo) ∧ V'.cell? ⟨L + 1, 5, none⟩ = some (.int .u16 b.sp.hi) ∧ V'.cell? ⟨L + 1, 6, none⟩ = some (.int .u16 b.dp.lo) ∧ V'.cell? ⟨L + 1, 7, none⟩ = some (.int .u16 (mid : Int)) ∧ V'.cell? ⟨L + 1, 8, none⟩ = some (.int .u8 b.pr.v) ∧ V'.cell? ⟨L + 1, 9, none⟩ = some (.int .u8 b.pr.c) from ⟨k1.cell (i := 0) rfl, k1.cell (i := 1) rfl, k1.cell (i := 2) rfl, k1.cell (i := 3) rfl, k1.cell (i := 4) rfl, k1.cell (i := 5) rfl, k1.cell (i := 6) rfl, k1.cell (i := 7) rfl, k1.cell (i := 8) rfl, k1.cell (i := 9) rfl⟩
  obtain ⟨d0, d1, d2, d3, d4, d5, d6, d7, d8, d9⟩ := show V'.cell? ⟨L + 1 + 1, 0, none⟩ = some (.int .u32 b.src.lo) ∧ V'.cell? ⟨L + 1 + 1, 1, none⟩ = some (.int .u32 b.src.hi) ∧ V'.cell? ⟨L + 1 + 1, 2, none⟩ = some (.int .u32 b.dst.lo) ∧ V'.cell? ⟨L + 1 + 1, 3, none⟩ = some (.int .u32 b.dst.hi) ∧ V'.cell? ⟨L + 1 + 1, 4, none⟩ = some (.int .u16 b.sp.lo) ∧ V'.cell? ⟨L + 1 + 1, 5, none⟩ = some (.int .u16 b.sp.hi) ∧ V'.cell? ⟨L + 1 + 1, 6, none⟩ = some (.int .u16 (m1 : Int)) ∧ V'.cell? ⟨L + 1 + 1, 7, none⟩ = some (.int .u16 b.dp.hi) ∧ V'.cell? ⟨L + 1 + 1, 8, none⟩ = some (.int .u8 b.pr.v) ∧ V'.cell? ⟨L + 1 + 1, 9, none⟩ = some (.int .u8 b.pr.c) from ⟨k2.cell (i := 0) rfl, k2.cell (i := 1) rfl, k2.cell (i := 2) rfl, k2.cell (i := 3) rfl, k2.cell (i := 4) rfl, k2.cell (i := 5) rfl, k2.cell (i := 6) rfl, k2.cell (i := 7) rfl, k2.cell (i := 8) rfl, k2.cell (i := 9) rfl⟩
  clear k1 k2 ho hV
  go_wp2
  refine bodyPost_ret (v := .tuple #[.agg #[.int .u32 b.src.lo, .int .u32 b.src.hi, .int .u32 b.dst.lo, .int .u32 b.dst.hi, .int .u16 b.sp.lo, .int .u16 b.sp.hi, .int .u16 b.dp.lo, .int .u16 (mid : Int), .int .u8 b.pr.v, .int .u8 b.pr.c], .agg #[.int .u32 b.src.lo, .int .u32 b.src.hi, .int .u32 b.dst.lo, .int .u32 b.dst.hi, .int .u16 b.sp.lo, .int .u16 b.sp.hi, .int .u16 (m1 : Int), .int .u16 b.dp.hi, .int .u8 b.pr.v, .int .u8 b.pr.c], .func (.func 94) #[] #[.pointer (some ⟨O, 0, none⟩), .pointer (some ⟨T, 0, none⟩)], .bool true]) (by simp [results, Try.results93, go_sem, *]) rfl ⟨T, rfl, by rw [HL.out]; have := HT.out; omega, HTc.out, by rw [HL.out]; exact HO.out⟩
end Go.Proofs.Ytljliopmphaoeaa
