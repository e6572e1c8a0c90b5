/- The cut of a box by the protocol. -/
import Derived.Test.YtljliopmphaoeaaW2
import Derived.Test.YtljliopmphaoeaaShelf
namespace Go.Proofs.Ytljliopmphaoeaa
open Go Go.RowKit Go.Proofs.Ytljliopmphaoeaa.Q

theorem trio (w : World) (c0 c1 c2 : Array Value) (T : TypeId) (M : World) (hM : ((w.alloc (.cells c0 T)).alloc (.cells c1 T)).alloc (.cells c2 T) = M) :
    Blk M w.heap.size c0 T ∧ Blk M (w.heap.size + 1) c1 T ∧ Blk M (w.heap.size + 1 + 1) c2 T ∧ Below w.heap.size w M ∧ M.heap.size = w.heap.size + 1 + 1 + 1 := by
  subst hM
  refine ⟨?_, ?_, ?_, ?_, by simp⟩
  · exact ((Blk.new w c0 T).alloc _).alloc _
  · exact (blkN (X := w.alloc (.cells c0 T)) (N := w.heap.size + 1) (by simp) c1 T).alloc _
  · exact blkN (X := (w.alloc (.cells c0 T)).alloc (.cells c1 T)) (N := w.heap.size + 1 + 1) (by simp) c2 T
  · exact below_alloc (below_alloc (below_alloc (Below.refl _ _) _) _) _
/-- the highest bit of the protocol that is free -/
def freeBit (c : Nat) : Nat := 128 >>> (8 - Lib.bitLen (255 - c))
set_option maxHeartbeats 2000000 in
set_option maxRecDepth 100000 in
theorem cut4_no (b : Bx) (w : World) (he : b.pr.c = 255) :
    Calls Try.prog 78 #[.agg #[.int .u32 b.src.lo, .int .u32 b.src.hi, .int .u32 b.dst.lo, .int .u32 b.dst.hi, .int .u16 b.sp.lo, .int .u16 b.sp.hi, .int .u16 b.dp.lo, .int .u16 b.dp.hi, .int .u8 b.pr.v, .int .u8 b.pr.c]] w fun e w' => e = .returned (.tuple #[.agg #[.int .u32 b.src.lo, .int .u32 b.src.hi, .int .u32 b.dst.lo, .int .u32 b.dst.hi, .int .u16 b.sp.lo, .int .u16 b.sp.hi, .int .u16 b.dp.lo, .int .u16 b.dp.hi, .int .u8 b.pr.v, .int .u8 b.pr.c], .agg #[.int .u32 b.src.lo, .int .u32 b.src.hi, .int .u32 b.dst.lo, .int .u32 b.dst.hi, .int .u16 b.sp.lo, .int .u16 b.sp.hi, .int .u16 b.dp.lo, .int .u16 b.dp.hi, .int .u8 b.pr.v, .int .u8 b.pr.c], .nilFunc, .bool false]) ∧ Below w.heap.size w w' := by
  have ht : ((b.pr.c : Int) == 255) = true := by simp [he]
  clear he
  obtain ⟨M, hM⟩ : ∃ M, ((w.alloc (.cells #[.int .u32 b.src.lo, .int .u32 b.src.hi, .int .u32 b.dst.lo, .int .u32 b.dst.hi, .int .u16 b.sp.lo, .int .u16 b.sp.hi, .int .u16 b.dp.lo, .int .u16 b.dp.hi, .int .u8 b.pr.v, .int .u8 b.pr.c] 109)).alloc (.cells #[.int .u32 0, .int .u32 0, .int .u32 0, .int .u32 0, .int .u16 0, .int .u16 0, .int .u16 0, .int .u16 0, .int .u8 0, .int .u8 0] 109)).alloc (.cells #[.int .u32 0, .int .u32 0, .int .u32 0, .int .u32 0, .int .u16 0, .int .u16 0, .int .u16 0, .int .u16 0, .int .u8 0, .int .u8 0] 109) = M := ⟨_, rfl⟩
  obtain ⟨hb0, hb1, hb2, hbw, hsz⟩ := trio _ _ _ _ _ _ hM
  obtain ⟨L, hL⟩ : ∃ L, w.heap.size = L := ⟨_, rfl⟩
  rw [hL] at hb0 hb1 hb2 hbw hsz
  have HM := Sd.mk hM
  have HL := Sd.mk hL
  have HB := Sd.mk (And.intro hbw (And.intro hsz (And.intro hb0 (And.intro hb1 hb2))))
  clear hM hsz hbw
  go_enter Try.func78, Try.ntmps78
  go_upto_region 1 with fail
  rw [HM.out]
  try rw [HL.out]
  obtain ⟨c0, c1, c2, c3, c4, c5, c6, c7, c8, c9⟩ := show M.cell? ⟨L, 0, none⟩ = some (.int .u32 b.src.lo) ∧ M.cell? ⟨L, 1, none⟩ = some (.int .u32 b.src.hi) ∧ M.cell? ⟨L, 2, none⟩ = some (.int .u32 b.dst.lo) ∧ M.cell? ⟨L, 3, none⟩ = some (.int .u32 b.dst.hi) ∧ M.cell? ⟨L, 4, none⟩ = some (.int .u16 b.sp.lo) ∧ M.cell? ⟨L, 5, none⟩ = some (.int .u16 b.sp.hi) ∧ M.cell? ⟨L, 6, none⟩ = some (.int .u16 b.dp.lo) ∧ M.cell? ⟨L, 7, none⟩ = some (.int .u16 b.dp.hi) ∧ M.cell? ⟨L, 8, none⟩ = some (.int .u8 b.pr.v) ∧ M.cell? ⟨L, 9, none⟩ = some (.int .u8 b.pr.c) from ⟨hb0.cell (i := 0) rfl, hb0.cell (i := 1) rfl, hb0.cell (i := 2) rfl, hb0.cell (i := 3) rfl, hb0.cell (i := 4) rfl, hb0.cell (i := 5) rfl, hb0.cell (i := 6) rfl, hb0.cell (i := 7) rfl, hb0.cell (i := 8) rfl, hb0.cell (i := 9) rfl⟩
  have l0 := hb0.lt
  have l1 := hb1.lt
  have l2 := hb2.lt
  have g1 := hb1.at
  have g2 := hb2.at
  have f1 := hb1.frozen
  have f2 := hb2.frozen
  clear hb0 hb1 hb2 hL
  go_upto_region 2 with fail
  go_region
  clear c0 c1 c2 c3 c4 c5 c6 c7 c8 c9 g1 g2 f1 f2 l0 l1 l2
  obtain ⟨V', hV⟩ : ∃ V', ((((((((((((((((((((M.setCell ⟨L + 1, 0, none⟩ (.int .u32 b.src.lo)).setCell ⟨L + 1, 1, none⟩ (.int .u32 b.src.hi)).setCell ⟨L + 1, 2, none⟩ (.int .u32 b.dst.lo)).setCell ⟨L + 1, 3, none⟩ (.int .u32 b.dst.hi)).setCell ⟨L + 1, 4, none⟩ (.int .u16 b.sp.lo)).setCell ⟨L + 1, 5, none⟩ (.int .u16 b.sp.hi)).setCell ⟨L + 1, 6, none⟩ (.int .u16 b.dp.lo)).setCell ⟨L + 1, 7, none⟩ (.int .u16 b.dp.hi)).setCell ⟨L + 1, 8, none⟩ (.int .u8 b.pr.v)).setCell ⟨L + 1, 9, none⟩ (.int .u8 b.pr.c)).setCell ⟨L + 1 + 1, 0, none⟩ (.int .u32 b.src.lo)).setCell ⟨L + 1 + 1, 1, none⟩ (.int .u32 b.src.hi)).setCell ⟨L + 1 + 1, 2, none⟩ (.int .u32 b.dst.lo)).setCell ⟨L + 1 + 1, 3, none⟩ (.int .u32 b.dst.hi)).setCell ⟨L + 1 + 1, 4, none⟩ (.int .u16 b.sp.lo)).setCell ⟨L + 1 + 1, 5, none⟩ (.int .u16 b.sp.hi)).setCell ⟨L + 1 + 1, 6, none⟩ (.int .u16 b.dp.lo)).setCell ⟨L + 1 + 1, 7, none⟩ (.int .u16 b.dp.hi)).setCell ⟨L + 1 + 1, 8, none⟩ (.int .u8 b.pr.v)).setCell ⟨L + 1 + 1, 9, none⟩ (.int .u8 b.pr.c)).drew = V' := ⟨_, rfl⟩
  obtain ⟨k1, k2, ho⟩ := fill2 HB.out.2.2.2.1 HB.out.2.2.2.2 (by omega) hV
  rw [hV]
  have HO : Sd (Below L w V') := ⟨HB.out.1.trans (ho.below L (by rw [← HL.out]; exact HB.out.1.size) (fun k hk => by omega))⟩
  obtain ⟨c0, c1, c2, c3, c4, c5, c6, c7, c8, c9⟩ := show V'.cell? ⟨L + 1, 0, none⟩ = some (.int .u32 b.src.lo) ∧ V'.cell? ⟨L + 1, 1, none⟩ = some (.int .u32 b.src.hi) ∧ V'.cell? ⟨L + 1, 2, none⟩ = some (.int .u32 b.dst.lo) ∧ V'.cell? ⟨L + 1, 3, none⟩ = some (.int .u32 b.dst.hi) ∧ V'.cell? ⟨L + 1, 4, none⟩ = some (.int .u16 b.sp.lo) ∧ V'.cell? ⟨L + 1, 5, none⟩ = some (.int .u16 b.sp.hi) ∧ V'.cell? ⟨L + 1, 6, none⟩ = some (.int .u16 b.dp.lo) ∧ V'.cell? ⟨L + 1, 7, none⟩ = some (.int .u16 b.dp.hi) ∧ V'.cell? ⟨L + 1, 8, none⟩ = some (.int .u8 b.pr.v) ∧ V'.cell? ⟨L + 1, 9, none⟩ = some (.int .u8 b.pr.c) from ⟨k1.cell (i := 0) rfl, k1.cell (i := 1) rfl, k1.cell (i := 2) rfl, k1.cell (i := 3) rfl, k1.cell (i := 4) rfl, k1.cell (i := 5) rfl, k1.cell (i := 6) rfl, k1.cell (i := 7) rfl, k1.cell (i := 8) rfl, k1.cell (i := 9) rfl⟩
  obtain ⟨d0, d1, d2, d3, d4, d5, d6, d7, d8, d9⟩ := show V'.cell? ⟨L + 1 + 1, 0, none⟩ = some (.int .u32 b.src.lo) ∧ V'.cell? ⟨L + 1 + 1, 1, none⟩ = some (.int .u32 b.src.hi) ∧ V'.cell? ⟨L + 1 + 1, 2, none⟩ = some (.int .u32 b.dst.lo) ∧ V'.cell? ⟨L + 1 + 1, 3, none⟩ = some (.int .u32 b.dst.hi) ∧ V'.cell? ⟨L + 1 + 1, 4, none⟩ = some (.int .u16 b.sp.lo) ∧ V'.cell? ⟨L + 1 + 1, 5, none⟩ = some (.int .u16 b.sp.hi) ∧ V'.cell? ⟨L + 1 + 1, 6, none⟩ = some (.int .u16 b.dp.lo) ∧ V'.cell? ⟨L + 1 + 1, 7, none⟩ = some (.int .u16 b.dp.hi) ∧ V'.cell? ⟨L + 1 + 1, 8, none⟩ = some (.int .u8 b.pr.v) ∧ V'.cell? ⟨L + 1 + 1, 9, none⟩ = some (.int .u8 b.pr.c) from ⟨k2.cell (i := 0) rfl, k2.cell (i := 1) rfl, k2.cell (i := 2) rfl, k2.cell (i := 3) rfl, k2.cell (i := 4) rfl, k2.cell (i := 5) rfl, k2.cell (i := 6) rfl, k2.cell (i := 7) rfl, k2.cell (i := 8) rfl, k2.cell (i := 9) rfl⟩
  clear k1 k2 ho hV
  go_wp2
  refine bodyPost_ret (v := .tuple #[.agg #[.int .u32 b.src.lo, .int .u32 b.src.hi, .int .u32 b.dst.lo, .int .u32 b.dst.hi, .int .u16 b.sp.lo, .int .u16 b.sp.hi, .int .u16 b.dp.lo, .int .u16 b.dp.hi, .int .u8 b.pr.v, .int .u8 b.pr.c], .agg #[.int .u32 b.src.lo, .int .u32 b.src.hi, .int .u32 b.dst.lo, .int .u32 b.dst.hi, .int .u16 b.sp.lo, .int .u16 b.sp.hi, .int .u16 b.dp.lo, .int .u16 b.dp.hi, .int .u8 b.pr.v, .int .u8 b.pr.c], .nilFunc, .bool false]) (by simp [results, Try.results78, go_sem, *]) rfl ⟨rfl, by rw [HL.out]; exact HO.out⟩
set_option maxHeartbeats 2000000 in
set_option maxRecDepth 100000 in
theorem cut4_ok (b : Bx) (k bit cb vb : Nat) (w : World) (he : b.pr.c < 255) (hk : k + Lib.bitLen (255 - b.pr.c) = 8) (hb : bit = 128 >>> k) (hv : b.pr.v < 256) (hcb : cb = b.pr.c ||| bit) (hvb : vb = b.pr.v ||| bit) :
    Calls Try.prog 78 #[.agg #[.int .u32 b.src.lo, .int .u32 b.src.hi, .int .u32 b.dst.lo, .int .u32 b.dst.hi, .int .u16 b.sp.lo, .int .u16 b.sp.hi, .int .u16 b.dp.lo, .int .u16 b.dp.hi, .int .u8 b.pr.v, .int .u8 b.pr.c]] w fun e w' => ∃ T, e = .returned (.tuple #[.agg #[.int .u32 b.src.lo, .int .u32 b.src.hi, .int .u32 b.dst.lo, .int .u32 b.dst.hi, .int .u16 b.sp.lo, .int .u16 b.sp.hi, .int .u16 b.dp.lo, .int .u16 b.dp.hi, .int .u8 b.pr.v, .int .u8 (cb : Int)], .agg #[.int .u32 b.src.lo, .int .u32 b.src.hi, .int .u32 b.dst.lo, .int .u32 b.dst.hi, .int .u16 b.sp.lo, .int .u16 b.sp.hi, .int .u16 b.dp.lo, .int .u16 b.dp.hi, .int .u8 (vb : Int), .int .u8 (cb : Int)], .func (.func 96) #[] #[.pointer (some ⟨T, 0, none⟩)], .bool true]) ∧ w.heap.size ≤ T ∧ Blk w' T #[.int .u8 bit] 5 ∧ Below w.heap.size w w' := by
  have ht : ((b.pr.c : Int) == 255) = false := by rw [beq_eq_false_iff_ne]; omega
  have Z := fun W => Try.bits_LeadingZeros8 ((255 - b.pr.c : Nat) : Int) W (by omega) (by omega)
  rw [show (8 : Int) - (Lib.bitLen ((255 - b.pr.c : Nat) : Int).toNat : Int) = (k : Int) by rw [Int.toNat_natCast]; omega] at Z
  have HZ := Sd.mk Z
  have EX : Sd (bits BinOp.xor IntKind.u8 IntKind.u8.max (b.pr.c : Int) = ((255 - b.pr.c : Nat) : Int)) := ⟨by
    rw [show IntKind.u8.max = ((255 : Nat) : Int) from rfl, u8_xor_nat _ _ (by omega) (by omega)]
    have := (show ∀ c : Fin 256, 255 ^^^ c.val = 255 - c.val by decide) ⟨b.pr.c, by omega⟩
    rw [this]⟩
  have EB : Sd ((128 : Int) / 2 ^ k = (bit : Int)) := ⟨by rw [hb, Nat.shiftRight_eq_div_pow]; push_cast; rfl⟩
  have HBL : Sd (bit < 256) := ⟨by rw [hb, Nat.shiftRight_eq_div_pow]; have := Nat.div_le_self 128 (2 ^ k); omega⟩
  have EO1 : Sd (bits BinOp.or IntKind.u8 (b.pr.c : Int) (bit : Int) = (cb : Int)) := ⟨by rw [u8_or_nat _ _ (by omega) HBL.out, hcb]⟩
  have EO2 : Sd (bits BinOp.or IntKind.u8 (b.pr.v : Int) (bit : Int) = (vb : Int)) := ⟨by rw [u8_or_nat _ _ hv HBL.out, hvb]⟩
  clear Z hb hcb hvb
  obtain ⟨M, hM⟩ : ∃ M, ((w.alloc (.cells #[.int .u32 b.src.lo, .int .u32 b.src.hi, .int .u32 b.dst.lo, .int .u32 b.dst.hi, .int .u16 b.sp.lo, .int .u16 b.sp.hi, .int .u16 b.dp.lo, .int .u16 b.dp.hi, .int .u8 b.pr.v, .int .u8 b.pr.c] 109)).alloc (.cells #[.int .u32 0, .int .u32 0, .int .u32 0, .int .u32 0, .int .u16 0, .int .u16 0, .int .u16 0, .int .u16 0, .int .u8 0, .int .u8 0] 109)).alloc (.cells #[.int .u32 0, .int .u32 0, .int .u32 0, .int .u32 0, .int .u16 0, .int .u16 0, .int .u16 0, .int .u16 0, .int .u8 0, .int .u8 0] 109) = M := ⟨_, rfl⟩
  obtain ⟨hb0, hb1, hb2, hbw, hsz⟩ := trio _ _ _ _ _ _ hM
  obtain ⟨L, hL⟩ : ∃ L, w.heap.size = L := ⟨_, rfl⟩
  rw [hL] at hb0 hb1 hb2 hbw hsz
  have HM := Sd.mk hM
  have HL := Sd.mk hL
  have HB := Sd.mk (And.intro hbw (And.intro hsz (And.intro hb0 (And.intro hb1 hb2))))
  clear hM hsz hbw
  go_enter Try.func78, Try.ntmps78
  go_upto_region 1 with fail
  rw [HM.out]
  try rw [HL.out]
  obtain ⟨c0, c1, c2, c3, c4, c5, c6, c7, c8, c9⟩ := show M.cell? ⟨L, 0, none⟩ = some (.int .u32 b.src.lo) ∧ M.cell? ⟨L, 1, none⟩ = some (.int .u32 b.src.hi) ∧ M.cell? ⟨L, 2, none⟩ = some (.int .u32 b.dst.lo) ∧ M.cell? ⟨L, 3, none⟩ = some (.int .u32 b.dst.hi) ∧ M.cell? ⟨L, 4, none⟩ = some (.int .u16 b.sp.lo) ∧ M.cell? ⟨L, 5, none⟩ = some (.int .u16 b.sp.hi) ∧ M.cell? ⟨L, 6, none⟩ = some (.int .u16 b.dp.lo) ∧ M.cell? ⟨L, 7, none⟩ = some (.int .u16 b.dp.hi) ∧ M.cell? ⟨L, 8, none⟩ = some (.int .u8 b.pr.v) ∧ M.cell? ⟨L, 9, none⟩ = some (.int .u8 b.pr.c) from ⟨hb0.cell (i := 0) rfl, hb0.cell (i := 1) rfl, hb0.cell (i := 2) rfl, hb0.cell (i := 3) rfl, hb0.cell (i := 4) rfl, hb0.cell (i := 5) rfl, hb0.cell (i := 6) rfl, hb0.cell (i := 7) rfl, hb0.cell (i := 8) rfl, hb0.cell (i := 9) rfl⟩
  have l0 := hb0.lt
  have l1 := hb1.lt
  have l2 := hb2.lt
  have g1 := hb1.at
  have g2 := hb2.at
  have f1 := hb1.frozen
  have f2 := hb2.frozen
  clear hb0 hb1 hb2 hL
  go_upto_region 3 with fail
  go_wp2_with fail
  rw [EX.out]
  refine (HZ.out _).mono ?_
  rintro e w1 ⟨rfl, rfl⟩
  go_upto_region 4 with fail
  rw [EB.out]
  obtain ⟨T, hT⟩ : ∃ T, w1.heap.size = T := ⟨_, rfl⟩
  rw [hT]
  obtain ⟨W0, hW0⟩ : ∃ W0, w1.alloc (.cells #[.int .u8 bit] 5) = W0 := ⟨_, rfl⟩
  have hbW : Below w1.heap.size w1 W0 := by rw [← hW0]; exact (Below.refl _ _).alloc (Nat.le_refl _) _
  have hTb : Blk W0 T #[.int .u8 bit] 5 := by rw [← hW0]; exact blkN hT _ _
  obtain ⟨hbw, hsz, h0, h1, h2⟩ := HB.out
  have HS0 : Sd (W0.heap.size = T + 1) := ⟨by rw [← hW0, ← hT]; simp⟩
  have HS : Sd (Blk W0 L _ _ ∧ Blk W0 (L + 1) _ _ ∧ Blk W0 (L + 1 + 1) _ _ ∧ Blk W0 T _ _) := ⟨⟨h0.below hbW h0.lt, h1.below hbW h1.lt, h2.below hbW h2.lt, hTb⟩⟩
  have HW0 : Sd (Below L w W0) := ⟨hbw.trans (hbW.mono (by omega))⟩
  have HT : Sd (L + 1 + 1 < T) := ⟨by omega⟩
  rw [hW0]
  clear c0 c1 c2 c3 c4 c5 c6 c7 c8 c9 hW0 h0 h1 h2 hbw hsz hbW hTb hT g1 g2 f1 f2 l0 l1 l2
  have hb0 := HS.out.1
  obtain ⟨c0, c1, c2, c3, c4, c5, c6, c7, c8, c9⟩ := show W0.cell? ⟨L, 0, none⟩ = some (.int .u32 b.src.lo) ∧ W0.cell? ⟨L, 1, none⟩ = some (.int .u32 b.src.hi) ∧ W0.cell? ⟨L, 2, none⟩ = some (.int .u32 b.dst.lo) ∧ W0.cell? ⟨L, 3, none⟩ = some (.int .u32 b.dst.hi) ∧ W0.cell? ⟨L, 4, none⟩ = some (.int .u16 b.sp.lo) ∧ W0.cell? ⟨L, 5, none⟩ = some (.int .u16 b.sp.hi) ∧ W0.cell? ⟨L, 6, none⟩ = some (.int .u16 b.dp.lo) ∧ W0.cell? ⟨L, 7, none⟩ = some (.int .u16 b.dp.hi) ∧ W0.cell? ⟨L, 8, none⟩ = some (.int .u8 b.pr.v) ∧ W0.cell? ⟨L, 9, none⟩ = some (.int .u8 b.pr.c) from ⟨hb0.cell (i := 0) rfl, hb0.cell (i := 1) rfl, hb0.cell (i := 2) rfl, hb0.cell (i := 3) rfl, hb0.cell (i := 4) rfl, hb0.cell (i := 5) rfl, hb0.cell (i := 6) rfl, hb0.cell (i := 7) rfl, hb0.cell (i := 8) rfl, hb0.cell (i := 9) rfl⟩
  have l0 := hb0.lt
  clear hb0
  go_cut [7, 8] (fun s7 s8 W => ∃ P Q : Nat, s7 = .pointer (some ⟨P, 0, none⟩) ∧ s8 = .pointer (some ⟨Q, 0, none⟩) ∧ Sd (P ≠ Q ∧ T < P ∧ T < Q ∧ Blk W P #[.int .u32 b.src.lo, .int .u32 b.src.hi, .int .u32 b.dst.lo, .int .u32 b.dst.hi, .int .u16 b.sp.lo, .int .u16 b.sp.hi, .int .u16 b.dp.lo, .int .u16 b.dp.hi, .int .u8 b.pr.v, .int .u8 b.pr.c] 109 ∧ Blk W Q #[.int .u32 b.src.lo, .int .u32 b.src.hi, .int .u32 b.dst.lo, .int .u32 b.dst.hi, .int .u16 b.sp.lo, .int .u16 b.sp.hi, .int .u16 b.dp.lo, .int .u16 b.dp.hi, .int .u8 b.pr.v, .int .u8 b.pr.c] 109 ∧ Below W0.heap.size W0 W))
  case first =>
    have HA := Sd.mk (Blk.drew ((Blk.new W0 #[.int .u32 b.src.lo, .int .u32 b.src.hi, .int .u32 b.dst.lo, .int .u32 b.dst.hi, .int .u16 b.sp.lo, .int .u16 b.sp.hi, .int .u16 b.dp.lo, .int .u16 b.dp.hi, .int .u8 b.pr.v, .int .u8 b.pr.c] 109).alloc (.cells #[.int .u32 b.src.lo, .int .u32 b.src.hi, .int .u32 b.dst.lo, .int .u32 b.dst.hi, .int .u16 b.sp.lo, .int .u16 b.sp.hi, .int .u16 b.dp.lo, .int .u16 b.dp.hi, .int .u8 b.pr.v, .int .u8 b.pr.c] 109)))
    have HA2 := Sd.mk (Blk.drew (blkN (X := W0.alloc (.cells #[.int .u32 b.src.lo, .int .u32 b.src.hi, .int .u32 b.dst.lo, .int .u32 b.dst.hi, .int .u16 b.sp.lo, .int .u16 b.sp.hi, .int .u16 b.dp.lo, .int .u16 b.dp.hi, .int .u8 b.pr.v, .int .u8 b.pr.c] 109)) (N := W0.heap.size + 1) (by simp) #[.int .u32 b.src.lo, .int .u32 b.src.hi, .int .u32 b.dst.lo, .int .u32 b.dst.hi, .int .u16 b.sp.lo, .int .u16 b.sp.hi, .int .u16 b.dp.lo, .int .u16 b.dp.hi, .int .u8 b.pr.v, .int .u8 b.pr.c] 109))
    have HA3 : Sd (Below W0.heap.size W0 ((W0.alloc (.cells #[.int .u32 b.src.lo, .int .u32 b.src.hi, .int .u32 b.dst.lo, .int .u32 b.dst.hi, .int .u16 b.sp.lo, .int .u16 b.sp.hi, .int .u16 b.dp.lo, .int .u16 b.dp.hi, .int .u8 b.pr.v, .int .u8 b.pr.c] 109)).alloc (.cells #[.int .u32 b.src.lo, .int .u32 b.src.hi, .int .u32 b.dst.lo, .int .u32 b.dst.hi, .int .u16 b.sp.lo, .int .u16 b.sp.hi, .int .u16 b.dp.lo, .int .u16 b.dp.hi, .int .u8 b.pr.v, .int .u8 b.pr.c] 109)).drew) := ⟨(below_alloc (below_alloc (Below.refl _ _) _) _).drew⟩
    go_region
    · go_wp2_with fail
      go_meet
      exact ⟨_, _, rfl, rfl, ⟨by omega, by have := HS0.out; omega, by have := HS0.out; omega, HA.out, HA2.out, HA3.out⟩⟩
    · go_wp2_with fail
      go_meet
      exact ⟨_, _, rfl, rfl, ⟨by omega, by have := HS0.out; omega, by have := HS0.out; omega, HA2.out, HA.out, HA3.out⟩⟩
  case rest =>
    obtain ⟨P, Q, rfl, rfl, HC⟩ := hcut
    obtain ⟨q1, q2, q3, kP, kQ, hbc⟩ := HC.out
    have kL := HS.out.1.below hbc HS.out.1.lt
    have kT := HS.out.2.2.2.below hbc HS.out.2.2.2.lt
    have HS1 := Sd.mk (And.intro (HS.out.2.1.below hbc HS.out.2.1.lt) (And.intro (HS.out.2.2.1.below hbc HS.out.2.2.1.lt) kT))
    have HW1 : Sd (Below L w wc) := ⟨HW0.out.trans (hbc.mono (by rw [HS0.out]; have := HT.out; omega))⟩
    have HKP := Sd.mk kP
    have HKQ := Sd.mk kQ
    clear c0 c1 c2 c3 c4 c5 c6 c7 c8 c9 l0
    have p9 := kP.cell (i := 9) rfl
    have t0 := kT.cell (i := 0) rfl
    have e8 := kL.cell (i := 8) rfl
    have e9 := kL.cell (i := 9) rfl
    have pf := kP.frozen
    have pl := kP.lt
    have qa := kQ.at
    have qf := kQ.frozen
    have ql := kQ.lt
    have q4 : P ≠ T := by omega
    have q5 : P ≠ L := by have := HT.out; omega
    have q6 : Q ≠ T := by omega
    have q7 : Q ≠ L := by have := HT.out; omega
    have q8 : Q ≠ P := by omega
    clear kL kT kP kQ hbc HS
    go_upto_region 7 with fail
    rw [EO1.out, EO2.out]
    obtain ⟨W2, hW2⟩ : ∃ W2, ((wc.setCell ⟨P, 9, none⟩ (.int .u8 (cb : Int))).setCell ⟨Q, 8, none⟩ (.int .u8 (vb : Int))).setCell ⟨Q, 9, none⟩ (.int .u8 (cb : Int)) = W2 := ⟨_, rfl⟩
    have ho2 : Only wc W2 (fun k => k = P ∨ k = Q) := by rw [← hW2]; exact (((Only.refl wc (fun k => k = P ∨ k = Q)).setCell _ _ (fun _ => .inl rfl)).setCell _ _ (fun _ => .inr rfl)).setCell _ _ (fun _ => .inr rfl)
    have k3 := ((HKP.out.set 9 (.int .u8 (cb : Int))).other (a := ⟨Q, 8, none⟩) (.int .u8 (vb : Int)) (show P ≠ Q by omega)).other (a := ⟨Q, 9, none⟩) (.int .u8 (cb : Int)) (show P ≠ Q by omega)
    rw [hW2] at k3
    simp only [List.setIfInBounds_toArray, List.set_cons_zero, List.set_cons_succ] at k3
    have k4 := ((HKQ.out.other (a := ⟨P, 9, none⟩) (.int .u8 (cb : Int)) (show Q ≠ P by omega)).set 8 (.int .u8 (vb : Int))).set 9 (.int .u8 (cb : Int))
    rw [hW2] at k4
    simp only [List.setIfInBounds_toArray, List.set_cons_zero, List.set_cons_succ] at k4
    have HS2 := Sd.mk (And.intro (HS1.out.1.only ho2 (by have := HT.out; omega)) (And.intro (HS1.out.2.1.only ho2 (by have := HT.out; omega)) (HS1.out.2.2.only ho2 (by omega))))
    have HW2 : Sd (Below L w W2) := ⟨HW1.out.trans (ho2.below L (by rw [← HL.out]; exact HW1.out.size) (fun k hk => by have := HT.out; omega))⟩
    rw [hW2]
    clear p9 t0 e8 e9 pf pl qa qf ql q4 q5 q6 q7 q8 hW2 HS1 HW1 ho2 HKP HKQ HC
    have p3 := k3.at
    have p4 := k4.at
    have l3 := k3.lt
    have l4 := k4.lt
    have g1 := HS2.out.1.at
    have g2 := HS2.out.2.1.at
    have f1 := HS2.out.1.frozen
    have f2 := HS2.out.2.1.frozen
    have l1 := HS2.out.1.lt
    have l2 := HS2.out.2.1.lt
    have n1 : P ≠ L + 1 := by have := HT.out; omega
    have n2 : P ≠ L + 1 + 1 := by have := HT.out; omega
    have n3 : Q ≠ L + 1 := by have := HT.out; omega
    have n4 : Q ≠ L + 1 + 1 := by have := HT.out; omega
    clear k3 k4
    go_region
    clear p3 p4 l3 l4 g1 g2 f1 f2 l1 l2
    obtain ⟨V', hV⟩ : ∃ V', ((((((((((((((((((((W2.setCell ⟨L + 1, 0, none⟩ (.int .u32 b.src.lo)).setCell ⟨L + 1, 1, none⟩ (.int .u32 b.src.hi)).setCell ⟨L + 1, 2, none⟩ (.int .u32 b.dst.lo)).setCell ⟨L + 1, 3, none⟩ (.int .u32 b.dst.hi)).setCell ⟨L + 1, 4, none⟩ (.int .u16 b.sp.lo)).setCell ⟨L + 1, 5, none⟩ (.int .u16 b.sp.hi)).setCell ⟨L + 1, 6, none⟩ (.int .u16 b.dp.lo)).setCell ⟨L + 1, 7, none⟩ (.int .u16 b.dp.hi)).setCell ⟨L + 1, 8, none⟩ (.int .u8 b.pr.v)).setCell ⟨L + 1, 9, none⟩ (.int .u8 (cb : Int))).setCell ⟨L + 1 + 1, 0, none⟩ (.int .u32 b.src.lo)).setCell ⟨L + 1 + 1, 1, none⟩ (.int .u32 b.src.hi)).setCell ⟨L + 1 + 1, 2, none⟩ (.int .u32 b.dst.lo)).setCell ⟨L + 1 + 1, 3, none⟩ (.int .u32 b.dst.hi)).setCell ⟨L + 1 + 1, 4, none⟩ (.int .u16 b.sp.lo)).setCell ⟨L + 1 + 1, 5, none⟩ (.int .u16 b.sp.hi)).setCell ⟨L + 1 + 1, 6, none⟩ (.int .u16 b.dp.lo)).setCell ⟨L + 1 + 1, 7, none⟩ (.int .u16 b.dp.hi)).setCell ⟨L + 1 + 1, 8, none⟩ (.int .u8 (vb : Int))).setCell ⟨L + 1 + 1, 9, none⟩ (.int .u8 (cb : Int))).drew = V' := ⟨_, rfl⟩
    obtain ⟨k1, k2, ho⟩ := fill2 HS2.out.1 HS2.out.2.1 (by omega) hV
    rw [hV]
    have HO : Sd (Below L w V') := ⟨HW2.out.trans (ho.below L (by rw [← HL.out]; exact HW2.out.size) (fun k hk => by omega))⟩
    have HTc := Sd.mk (HS2.out.2.2.only ho (by have := HT.out; omega))
    obtain ⟨c0, c1, c2, c3, c4, c5, c6, c7, c8, c9⟩ := show V'.cell? ⟨L + 1, 0, none⟩ = some (.int .u32 b.src.lo) ∧ V'.cell? ⟨L + 1, 1, none⟩ = some (.int .u32 b.src.hi) ∧ V'.cell? ⟨L + 1, 2, none⟩ = some (.int .u32 b.dst.lo) ∧ V'.cell? ⟨L + 1, 3, none⟩ = some (.int .u32 b.dst.hi) ∧ V'.cell? ⟨L + 1, 4, none⟩ = some (.int .u16 b.sp.lo) ∧ V'.cell? ⟨L + 1, 5, none⟩ = some (.int .u16 b.sp.hi) ∧ V'.cell? ⟨L + 1, 6, none⟩ = some (.int .u16 b.dp.lo) ∧ V'.cell? ⟨L + 1, 7, none⟩ = some (.int .u16 b.dp.hi) ∧ V'.cell? ⟨L + 1, 8, none⟩ = some (.int .u8 b.pr.v) ∧ V'.cell? ⟨L + 1, 9, none⟩ = some (.int .u8 (cb : Int)) from ⟨k1.cell (i := 0) rfl, k1.cell (i := 1) rfl, k1.cell (i := 2) rfl, k1.cell (i := 3) rfl, k1.cell (i := 4) rfl, k1.cell (i := 5) rfl, k1.cell (i := 6) rfl, k1.cell (i := 7) rfl, k1.cell (i := 8) rfl, k1.cell (i := 9) rfl⟩
    obtain ⟨d0, d1, d2, d3, d4, d5, d6, d7, d8, d9⟩ := show V'.cell? ⟨L + 1 + 1, 0, none⟩ = some (.int .u32 b.src.lo) ∧ V'.cell? ⟨L + 1 + 1, 1, none⟩ = some (.int .u32 b.src.hi) ∧ V'.cell? ⟨L + 1 + 1, 2, none⟩ = some (.int .u32 b.dst.lo) ∧ V'.cell? ⟨L + 1 + 1, 3, none⟩ = some (.int .u32 b.dst.hi) ∧ V'.cell? ⟨L + 1 + 1, 4, none⟩ = some (.int .u16 b.sp.lo) ∧ V'.cell? ⟨L + 1 + 1, 5, none⟩ = some (.int .u16 b.sp.hi) ∧ V'.cell? ⟨L + 1 + 1, 6, none⟩ = some (.int .u16 b.dp.lo) ∧ V'.cell? ⟨L + 1 + 1, 7, none⟩ = some (.int .u16 b.dp.hi) ∧ V'.cell? ⟨L + 1 + 1, 8, none⟩ = some (.int .u8 (vb : Int)) ∧ V'.cell? ⟨L + 1 + 1, 9, none⟩ = some (.int .u8 (cb : Int)) from ⟨k2.cell (i := 0) rfl, k2.cell (i := 1) rfl, k2.cell (i := 2) rfl, k2.cell (i := 3) rfl, k2.cell (i := 4) rfl, k2.cell (i := 5) rfl, k2.cell (i := 6) rfl, k2.cell (i := 7) rfl, k2.cell (i := 8) rfl, k2.cell (i := 9) rfl⟩
    clear k1 k2 ho hV
    go_wp2
    refine bodyPost_ret (v := .tuple #[.agg #[.int .u32 b.src.lo, .int .u32 b.src.hi, .int .u32 b.dst.lo, .int .u32 b.dst.hi, .int .u16 b.sp.lo, .int .u16 b.sp.hi, .int .u16 b.dp.lo, .int .u16 b.dp.hi, .int .u8 b.pr.v, .int .u8 (cb : Int)], .agg #[.int .u32 b.src.lo, .int .u32 b.src.hi, .int .u32 b.dst.lo, .int .u32 b.dst.hi, .int .u16 b.sp.lo, .int .u16 b.sp.hi, .int .u16 b.dp.lo, .int .u16 b.dp.hi, .int .u8 (vb : Int), .int .u8 (cb : Int)], .func (.func 96) #[] #[.pointer (some ⟨T, 0, none⟩)], .bool true]) (by simp [results, Try.results78, go_sem, *]) rfl ⟨T, rfl, by rw [HL.out]; have := HT.out; omega, HTc.out, by rw [HL.out]; exact HO.out⟩
end Go.Proofs.Ytljliopmphaoeaa
