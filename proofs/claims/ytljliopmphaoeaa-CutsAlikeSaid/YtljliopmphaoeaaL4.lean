/- awake. -/
import Derived.Test.YtljliopmphaoeaaL3
namespace Go.Proofs.Ytljliopmphaoeaa
open Go Go.RowKit Go.Proofs.Ytljliopmphaoeaa.Q
/-- a change leaves a block below it -/
theorem ChgOut.blk {w w2 : World} {E T base : Nat} {c : Cfg} {tv : Value} {rs : List Rul} {B : Nat} {cs : Array Value} {U : TypeId} (h : ChgOut w E T base c tv rs w2) (hB : Blk w B cs U) (h1 : B ≠ E) (h2 : B ≠ T) (h3 : tv.ownBlock ≠ some B) : Blk w2 B cs U := by
  obtain ⟨_, _, _, _, _, h4⟩ := h
  exact hB.only h4 (fun e => by
    rcases e with e | e | e
    · exact h1 e
    · exact h2 e
    · exact h3 e)
theorem ChgOut.low {w w2 : World} {E T base : Nat} {c : Cfg} {tv : Value} {rs : List Rul} (h : ChgOut w E T base c tv rs w2) (L : Nat) (hL : L ≤ w.heap.size) (hE : L ≤ E) (hT : L ≤ T) (ht : ∀ g, tv.ownBlock = some g → L ≤ g) :
    Below L w w2 ∧ ∀ tv' : Value, (tv'.ownBlock = tv.ownBlock ∨ ∃ g, w.heap.size ≤ g ∧ tv'.ownBlock = some g) → ∀ g, tv'.ownBlock = some g → L ≤ g := by
  obtain ⟨_, _, _, _, _, h4⟩ := h
  refine ⟨h4.below L hL (fun k hk => ?_), fun tv' h g hg => ?_⟩
  · rcases hk with e | e | e
    · omega
    · omega
    · exact ht k e
  · rcases h with h | ⟨j, h, e⟩
    · exact ht g (by rw [← h]; exact hg)
    · rw [e] at hg; injection hg with hg; omega
theorem own_not {w : World} {tv tv' : Value} {B : Nat} (h : tv'.ownBlock = tv.ownBlock ∨ ∃ g, w.heap.size ≤ g ∧ tv'.ownBlock = some g) (h1 : tv.ownBlock ≠ some B) (h2 : B < w.heap.size) : tv'.ownBlock ≠ some B := by
  rcases h with h | ⟨j, h, e⟩
  · rw [h]; exact h1
  · intro he; rw [e] at he; injection he with he; omega
theorem eqV1 (W : World) : (binOp .eql 36 (.agg #[.bool true, .int .i64 1, .int .i64 2]) (.agg #[.bool true, .int .i64 1, .int .i64 2])).run Try.prog W = .ok (.bool true) W := by kernel_rfl
theorem eqV3 (W : World) : (binOp .eql 36 (.agg #[.bool false, .int .i64 0, .int .i64 1]) (.agg #[.bool false, .int .i64 0, .int .i64 1])).run Try.prog W = .ok (.bool true) W := by kernel_rfl
theorem guardV (a b c a' b' c' : Value) (x y : Operand) (W : World) : (eqGuard .eql 36 x y (.agg #[a, b, c]) (.agg #[a', b', c'])).run Try.prog W = .ok () W := by kernel_rfl
set_option maxHeartbeats 2000000 in
set_option maxRecDepth 100000 in
theorem awake_any (w : World) : Calls Try.prog 11 #[] w fun e w' => e = .returned (.bool true) ∧ Below w.heap.size w w' := by
  have HX := Sd.mk example_any
  have HN := Sd.mk exNew
  have HV := Sd.mk every_any
  go_enter Try.func11, Try.ntmps11
  go_wp2_with fail
  refine (HX.out _).mono ?_
  rintro e w1 ⟨rfl, hb1⟩
  go_wp2_with fail
  refine (HN.out _).mono ?_
  rintro e w2 ⟨E, T, base, lv, rfl, k0, hE, hT, _, hb2⟩
  have HK0 := Sd.mk k0
  have HB2 := Sd.mk (beyond hb1 hb2)
  have HET := Sd.mk (And.intro (Nat.le_trans hb1.size hE) (Nat.le_trans hb1.size hT))
  have HLT := Sd.mk (And.intro k0.cell7.2 (Blk.lt k0.tab))
  clear hb1 hb2 hE hT k0
  go_wp2_with fail
  refine (HV.out _ _ _).mono ?_
  rintro e w3 ⟨rfl, hb3⟩
  go_upto_region 6 with fail
  obtain ⟨W4, hW4⟩ : ∃ W4, w3.alloc (.cells #[.int .i64 1, .int .u32 167772160, .int .i64 8, .int .u32 0, .int .i64 0, .int .u16 0, .int .u16 65535, .int .u16 0, .int .u16 65535, .int .u8 0, .int .u8 0, .int .i64 2] 60) = W4 := ⟨_, rfl⟩
  have hA4 : Blk W4 w3.heap.size #[.int .i64 1, .int .u32 167772160, .int .i64 8, .int .u32 0, .int .i64 0, .int .u16 0, .int .u16 65535, .int .u16 0, .int .u16 65535, .int .u8 0, .int .u8 0, .int .i64 2] 60 := by rw [← hW4]; exact Blk.new _ _ _
  have hb4 : Below w2.heap.size w2 W4 := by rw [← hW4]; exact beyond hb3 (below_alloc (Below.refl _ _) _)
  try rw [hW4]
  have hs3 := hb3.size
  generalize w3.heap.size = P3 at hA4 hs3 ⊢
  have HA4 := Sd.mk (And.intro hA4 (And.intro hb4 hs3))
  clear hW4 hb3 hA4 hb4 hs3
  go_wp2_with fail
  refine (HV.out _ _ _).mono ?_
  rintro e w5 ⟨rfl, hb5⟩
  go_upto_region 8 with fail
  obtain ⟨W6, hW6⟩ : ∃ W6, w5.alloc (.cells #[.int .i64 2, .int .u32 0, .int .i64 0, .int .u32 167772160, .int .i64 8, .int .u16 0, .int .u16 65535, .int .u16 0, .int .u16 65535, .int .u8 0, .int .u8 0, .int .i64 3] 60) = W6 := ⟨_, rfl⟩
  have hB6 : Blk W6 w5.heap.size #[.int .i64 2, .int .u32 0, .int .i64 0, .int .u32 167772160, .int .i64 8, .int .u16 0, .int .u16 65535, .int .u16 0, .int .u16 65535, .int .u8 0, .int .u8 0, .int .i64 3] 60 := by rw [← hW6]; exact Blk.new _ _ _
  have hb6 : Below W4.heap.size W4 W6 := by rw [← hW6]; exact beyond hb5 (below_alloc (Below.refl _ _) _)
  try rw [hW6]
  have hs5 := hb5.size
  generalize w5.heap.size = P4 at hB6 hs5 ⊢
  have hA6 := HA4.out.1.below hb6 HA4.out.1.lt
  have h26 := beyond HA4.out.2.1 hb6
  have k6 := HK0.out.below h26
  have nE3 : P3 ≠ E := by have := HA4.out.2.2; have := HLT.out.1; omega
  have nT3 : P3 ≠ T := by have := HA4.out.2.2; have := HLT.out.2; omega
  have nE4 : P4 ≠ E := by have := HA4.out.2.1.size; have := HLT.out.1; omega
  have nT4 : P4 ≠ T := by have := HA4.out.2.1.size; have := HLT.out.2; omega
  have HNE := Sd.mk (And.intro nE3 (And.intro nT3 (And.intro nE4 nT4)))
  have HI1 := Sd.mk (exIns1 k6)
  have HB6 := Sd.mk (And.intro (beyond HB2.out h26) (And.intro hA6 hB6))
  have c0 := hA6.cell (i := 0) rfl; have c1 := hA6.cell (i := 1) rfl; have c2 := hA6.cell (i := 2) rfl; have c3 := hA6.cell (i := 3) rfl; have c4 := hA6.cell (i := 4) rfl; have c5 := hA6.cell (i := 5) rfl; have c6 := hA6.cell (i := 6) rfl; have c7 := hA6.cell (i := 7) rfl; have c8 := hA6.cell (i := 8) rfl; have c9 := hA6.cell (i := 9) rfl; have c10 := hA6.cell (i := 10) rfl; have c11 := hA6.cell (i := 11) rfl
  clear hW6 hb5 hs5 hb6 hA6 hB6 h26 k6 nE3 nT3 nE4 nT4
  go_wp2_with fail
  refine HI1.out.mono ?_
  rintro e w7 ⟨rfl, hc7⟩
  have hA7 := hc7.blk HB6.out.2.1 HNE.out.1 HNE.out.2.1 (by simp [Value.ownBlock])
  have hB7 := hc7.blk HB6.out.2.2 HNE.out.2.2.1 HNE.out.2.2.2 (by simp [Value.ownBlock])
  obtain ⟨hl7, ht7⟩ := hc7.low w.heap.size HB6.out.1.size HET.out.1 HET.out.2 (fun g hg => by simp [Value.ownBlock] at hg)
  obtain ⟨tv1, lv1, k7, t7, _, o7⟩ := hc7
  have q3 : tv1.ownBlock ≠ some P3 := own_not t7 (by simp [Value.ownBlock]) HB6.out.2.1.lt
  have q4 : tv1.ownBlock ≠ some P4 := own_not t7 (by simp [Value.ownBlock]) HB6.out.2.2.lt
  have HI2 := Sd.mk (exIns2 k7)
  have HB7 := Sd.mk (And.intro (HB6.out.1.trans hl7) (And.intro hA7 (And.intro hB7 (And.intro q3 (And.intro q4 (ht7 tv1 t7))))))
  clear c0 c1 c2 c3 c4 c5 c6 c7 c8 c9 c10 c11
  have c0 := hB7.cell (i := 0) rfl; have c1 := hB7.cell (i := 1) rfl; have c2 := hB7.cell (i := 2) rfl; have c3 := hB7.cell (i := 3) rfl; have c4 := hB7.cell (i := 4) rfl; have c5 := hB7.cell (i := 5) rfl; have c6 := hB7.cell (i := 6) rfl; have c7 := hB7.cell (i := 7) rfl; have c8 := hB7.cell (i := 8) rfl; have c9 := hB7.cell (i := 9) rfl; have c10 := hB7.cell (i := 10) rfl; have c11 := hB7.cell (i := 11) rfl
  clear hA7 hB7 hl7 ht7 k7 t7 o7 q3 q4
  go_wp2_with fail
  refine HI2.out.mono ?_
  rintro e w8 ⟨rfl, hc8⟩
  have hA8 := hc8.blk HB7.out.2.1 HNE.out.1 HNE.out.2.1 HB7.out.2.2.2.1
  obtain ⟨hl8, _⟩ := hc8.low w.heap.size HB7.out.1.size HET.out.1 HET.out.2 HB7.out.2.2.2.2.2
  obtain ⟨tv2, lv2, k8, t8, _, o8⟩ := hc8
  have HI3 := Sd.mk (exIns3 k8)
  have HK8 := Sd.mk k8
  have HB8 := Sd.mk (HB7.out.1.trans hl8)
  clear c0 c1 c2 c3 c4 c5 c6 c7 c8 c9 c10 c11
  have c0 := hA8.cell (i := 0) rfl; have c1 := hA8.cell (i := 1) rfl; have c2 := hA8.cell (i := 2) rfl; have c3 := hA8.cell (i := 3) rfl; have c4 := hA8.cell (i := 4) rfl; have c5 := hA8.cell (i := 5) rfl; have c6 := hA8.cell (i := 6) rfl; have c7 := hA8.cell (i := 7) rfl; have c8 := hA8.cell (i := 8) rfl; have c9 := hA8.cell (i := 9) rfl; have c10 := hA8.cell (i := 10) rfl; have c11 := hA8.cell (i := 11) rfl
  clear hA8 hl8 k8 t8 o8
  go_wp2_with fail
  refine HI3.out.mono ?_
  rintro e w9 ⟨rfl, hb9⟩
  clear c0 c1 c2 c3 c4 c5 c6 c7 c8 c9 c10 c11
  obtain ⟨a1, n1, d1, hn1, HA1'⟩ := exAsk1 HK8.out
  obtain ⟨a2, n2, d2, HA2'⟩ := exAsk2 HK8.out
  obtain ⟨a3, n3, d3, HA3'⟩ := exAsk3 HK8.out
  have HA1 := Sd.mk HA1'
  have HA2 := Sd.mk HA2'
  have HA3 := Sd.mk HA3'
  have H9 := Sd.mk hb9
  clear HA1' HA2' HA3' hb9
  go_wp2_with fail
  refine (HA1.out _ H9.out).mono ?_
  rintro e w10 ⟨rfl, hb10⟩
  go_upto_region 12 with fail
  obtain ⟨W11, hW11⟩ : ∃ W11, (w10.alloc (.cells #[.bool true, .int .i64 1, .int .i64 2] 36)).alloc (.cells #[.int .i64 a1, .int .i64 n1, .int .i64 d1, .int .i64 0, .int .i64 0] 38) = W11 := ⟨_, rfl⟩
  have x1 : Blk W11 w10.heap.size #[.bool true, .int .i64 1, .int .i64 2] 36 := by rw [← hW11]; exact (Blk.new _ _ _).alloc _
  have y1 : Blk W11 (w10.heap.size + 1) #[.int .i64 a1, .int .i64 n1, .int .i64 d1, .int .i64 0, .int .i64 0] 38 := by rw [← hW11]; exact blkN (by simp) _ _
  have z1 : Below w8.heap.size w8 W11 := by rw [← hW11]; exact beyond (beyond H9.out hb10) (below_alloc (below_alloc (Below.refl _ _) _) _)
  try rw [hW11]
  generalize w10.heap.size = Q1 at x1 y1 ⊢
  have HQ1 := Sd.mk (And.intro x1 (And.intro y1 z1))
  clear x1 y1 z1 hW11 hb10
  go_wp2_with fail
  refine (HA2.out _ HQ1.out.2.2).mono ?_
  rintro e w12 ⟨rfl, hb12⟩
  go_upto_region 13 with fail
  obtain ⟨W13, hW13⟩ : ∃ W13, (w12.alloc (.cells #[.bool true, .int .i64 2, .int .i64 3] 36)).alloc (.cells #[.int .i64 a2, .int .i64 n2, .int .i64 d2, .int .i64 0, .int .i64 0] 38) = W13 := ⟨_, rfl⟩
  have x2 : Blk W13 w12.heap.size #[.bool true, .int .i64 2, .int .i64 3] 36 := by rw [← hW13]; exact (Blk.new _ _ _).alloc _
  have z2 : Below W11.heap.size W11 W13 := by rw [← hW13]; exact beyond hb12 (below_alloc (below_alloc (Below.refl _ _) _) _)
  try rw [hW13]
  generalize w12.heap.size = Q2 at x2 ⊢
  have HQ2 := Sd.mk (And.intro x2 z2)
  clear x2 z2 hW13 hb12
  go_wp2_with fail
  refine (HA3.out _ (beyond HQ1.out.2.2 HQ2.out.2)).mono ?_
  rintro e w14 ⟨rfl, hb14⟩
  go_upto_region 14 with fail
  obtain ⟨W15, hW15⟩ : ∃ W15, (w14.alloc (.cells #[.bool false, .int .i64 0, .int .i64 1] 36)).alloc (.cells #[.int .i64 a3, .int .i64 n3, .int .i64 d3, .int .i64 0, .int .i64 0] 38) = W15 := ⟨_, rfl⟩
  have x3 : Blk W15 w14.heap.size #[.bool false, .int .i64 0, .int .i64 1] 36 := by rw [← hW15]; exact (Blk.new _ _ _).alloc _
  have z3 : Below W13.heap.size W13 W15 := by rw [← hW15]; exact beyond hb14 (below_alloc (below_alloc (Below.refl _ _) _) _)
  try rw [hW15]
  generalize w14.heap.size = Q3 at x3 ⊢
  have HZ : Sd (Below w.heap.size w W15) := ⟨HB8.out.trans ((beyond HQ1.out.2.2 (beyond HQ2.out.2 z3)).mono HB8.out.size)⟩
  have b1 := HQ1.out.1.below (beyond HQ2.out.2 z3) HQ1.out.1.lt
  have b2 := HQ1.out.2.1.below (beyond HQ2.out.2 z3) HQ1.out.2.1.lt
  have b3 := HQ2.out.1.below z3 HQ2.out.1.lt
  have e0 := b1.cell (i := 0) rfl
  have e1 := b1.cell (i := 1) rfl
  have e2 := b1.cell (i := 2) rfl
  have e3 := b2.cell (i := 1) rfl
  have e4 := b3.cell (i := 1) rfl
  have e5 := x3.cell (i := 0) rfl
  have e6 := x3.cell (i := 1) rfl
  have e7 := x3.cell (i := 2) rfl
  have hd : decide ((1 : Int) ≤ (n1 : Int)) = true := decide_eq_true (by omega)
  clear b1 b2 b3 x3 z3 hW15 hb14
  have hq1 := eqV1
  have hq3 := eqV3
  have hg := guardV
  go_wp2
  go_ret
  exact ⟨rfl, HZ.out⟩
end Go.Proofs.Ytljliopmphaoeaa
