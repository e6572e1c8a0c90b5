/- CutsApart. -/
import Derived.Test.YtljliopmphaoeaaA6
import Derived.Test.YtljliopmphaoeaaS3
namespace Go.Proofs.Ytljliopmphaoeaa
open Go Go.RowKit Go.Proofs.Ytljliopmphaoeaa.Q
def cfgA : Cfg := ⟨64, 1, 100, 100, 100, 4, 8⟩
theorem cfgA_ok : cfgA.ck = 0 := by decide
theorem eqTx (a b c d : Int) (W : World) : (binOp .eql 43 (.agg #[.int .i64 a, .int .i64 b, .int .i64 c, .int .i64 d]) (.agg #[.int .i64 a, .int .i64 b, .int .i64 c, .int .i64 d])).run Try.prog W = .ok (.bool true) W := by
  go_simp
theorem guardTt (a b c d a' b' c' d' : Value) (x y : Operand) (W : World) : (eqGuard .eql 43 x y (.agg #[a, b, c, d]) (.agg #[a', b', c', d'])).run Try.prog W = .ok () W := by kernel_rfl
def ApartS (M : World) (P1 P2 P3 P4 : Nat) (hit : Bool) (vid act s0 s1 s2 s3 s4 t0 t1 t2 t3 : Int) (W : World) : Prop := Below M.heap.size M W ∧ W.cell? ⟨P1, 0, none⟩ = some (.bool hit) ∧ W.cell? ⟨P1, 1, none⟩ = some (.int .i64 vid) ∧ W.cell? ⟨P1, 2, none⟩ = some (.int .i64 act) ∧
  W.cell? ⟨P1 + 1, 0, none⟩ = some (.int .i64 s0) ∧ W.cell? ⟨P1 + 1, 1, none⟩ = some (.int .i64 s1) ∧ W.cell? ⟨P1 + 1, 2, none⟩ = some (.int .i64 s2) ∧ W.cell? ⟨P1 + 1, 3, none⟩ = some (.int .i64 s3) ∧ W.cell? ⟨P1 + 1, 4, none⟩ = some (.int .i64 s4) ∧
  W.cell? ⟨P2, 0, none⟩ = some (.int .i64 t0) ∧ W.cell? ⟨P2, 1, none⟩ = some (.int .i64 t1) ∧ W.cell? ⟨P2, 2, none⟩ = some (.int .i64 t2) ∧ W.cell? ⟨P2, 3, none⟩ = some (.int .i64 t3) ∧
  W.cell? ⟨P3, 0, none⟩ = some (.bool hit) ∧ W.cell? ⟨P3, 1, none⟩ = some (.int .i64 vid) ∧ W.cell? ⟨P3, 2, none⟩ = some (.int .i64 act) ∧
  W.cell? ⟨P4, 0, none⟩ = some (.int .i64 s0) ∧ W.cell? ⟨P4, 1, none⟩ = some (.int .i64 s1) ∧ W.cell? ⟨P4, 2, none⟩ = some (.int .i64 s2) ∧ W.cell? ⟨P4, 3, none⟩ = some (.int .i64 s3) ∧ W.cell? ⟨P4, 4, none⟩ = some (.int .i64 s4)
set_option maxHeartbeats 4000000 in
set_option maxRecDepth 100000 in
theorem lawApart_on (l : List Rul) (A : Option Addr) (cap : Nat) (r : Rul) (id : Int) (h : Hdr) (hr : r.Wf) (hh : h.Wf) (w : World) (hL : RulesIn w A cap l) (hlen : l.length ≤ 64) :
    Calls Try.prog 5 #[.slice A l.length cap, .agg #[.int .i64 r.id, .int .u32 r.src.a, .int .i64 r.src.n, .int .u32 r.dst.a, .int .i64 r.dst.n, .int .u16 r.sp.lo, .int .u16 r.sp.hi, .int .u16 r.dp.lo, .int .u16 r.dp.hi, .int .u8 r.pr.v, .int .u8 r.pr.c, .int .i64 r.act], .int .i64 id, .agg #[.int .u32 h.src, .int .u32 h.dst, .int .u16 h.sp, .int .u16 h.dp, .int .u8 h.pr]] w fun e w' => e = .returned (.bool true) ∧ Below w.heap.size w w' := by
  obtain ⟨M, hM⟩ : ∃ M, (w.alloc (.cells #[.int .i64 r.id, .int .u32 r.src.a, .int .i64 r.src.n, .int .u32 r.dst.a, .int .i64 r.dst.n, .int .u16 r.sp.lo, .int .u16 r.sp.hi, .int .u16 r.dp.lo, .int .u16 r.dp.hi, .int .u8 r.pr.v, .int .u8 r.pr.c, .int .i64 r.act] 60)).alloc (.cells #[.int .u32 h.src, .int .u32 h.dst, .int .u16 h.sp, .int .u16 h.dp, .int .u8 h.pr] 28) = M := ⟨_, rfl⟩
  have hb : Below w.heap.size w M := by rw [← hM]; exact below_alloc (below_alloc (Below.refl _ _) _) _
  have hrb : Blk M w.heap.size #[.int .i64 r.id, .int .u32 r.src.a, .int .i64 r.src.n, .int .u32 r.dst.a, .int .i64 r.dst.n, .int .u16 r.sp.lo, .int .u16 r.sp.hi, .int .u16 r.dp.lo, .int .u16 r.dp.hi, .int .u8 r.pr.v, .int .u8 r.pr.c, .int .i64 r.act] 60 := by rw [← hM]; exact (Blk.new w _ _).alloc _
  have hhb : Blk M (w.heap.size + 1) #[.int .u32 h.src, .int .u32 h.dst, .int .u16 h.sp, .int .u16 h.dp, .int .u8 h.pr] 28 := by rw [← hM]; exact blkN (by simp) _ _
  have HB := Sd.mk hb
  have HM := Sd.mk hM
  have HRH := Sd.mk (And.intro hrb hhb)
  have HE := Sd.mk example_any
  have HAW := Sd.mk awake_any
  have HN : Sd (∀ W, Calls Try.prog 10 #[.agg #[.int .i64 64, .int .i64 1, .int .i64 100, .int .i64 100, .int .i64 100, .int .i64 4, .int .i64 8]] W fun e w' => ∃ E T base, e = .returned (.tuple #[.pointer (some ⟨E, 0, none⟩), .int .i64 0]) ∧ (∃ N, EngP E T base cfgA w' N [] ∧ ∀ k, N k → W.heap.size ≤ k) ∧ Below W.heap.size W w') := ⟨fun W => eng_new cfgA W cfgA_ok⟩
  have HLI := Sd.mk hL
  have HWF := Sd.mk (And.intro hr hh)
  clear hb hM hrb hhb hL hr hh
  go_enter Try.func5, Try.ntmps5
  go_upto_region 1 with fail
  rw [HM.out]
  go_wp2_with fail
  refine (HE.out _).mono ?_
  rintro e w1 ⟨rfl, hb1⟩
  go_upto_region 5 with fail
  obtain ⟨W2, hW2⟩ : ∃ W2, w1.alloc (.cells #[.int .i64 64, .int .i64 1, .int .i64 100, .int .i64 100, .int .i64 100, .int .i64 4, .int .i64 8] 24) = W2 := ⟨_, rfl⟩
  have hb2 : Below M.heap.size M W2 := by rw [← hW2]; exact below_alloc hb1 _
  have hc2 : Blk W2 w1.heap.size #[.int .i64 64, .int .i64 1, .int .i64 100, .int .i64 100, .int .i64 100, .int .i64 4, .int .i64 8] 24 := by rw [← hW2]; exact Blk.new _ _ _
  try rw [hW2]
  generalize w1.heap.size = CB at hc2 ⊢
  have HB2 := Sd.mk hb2
  have HC2 := Sd.mk hc2
  have f0 : W2.cell? ⟨CB, 0, none⟩ = some (.int .i64 64) := hc2.cell (i := 0) rfl
  have f1 : W2.cell? ⟨CB, 1, none⟩ = some (.int .i64 1) := hc2.cell (i := 1) rfl
  have f2 : W2.cell? ⟨CB, 2, none⟩ = some (.int .i64 100) := hc2.cell (i := 2) rfl
  have f3 : W2.cell? ⟨CB, 3, none⟩ = some (.int .i64 100) := hc2.cell (i := 3) rfl
  have f4 : W2.cell? ⟨CB, 4, none⟩ = some (.int .i64 100) := hc2.cell (i := 4) rfl
  have f5 : W2.cell? ⟨CB, 5, none⟩ = some (.int .i64 4) := hc2.cell (i := 5) rfl
  have f6 : W2.cell? ⟨CB, 6, none⟩ = some (.int .i64 8) := hc2.cell (i := 6) rfl
  clear hW2 hb1 hb2 hc2
  go_wp2_with fail
  refine (HN.out _).mono ?_
  rintro e w3 ⟨E1, T1, b1, rfl, ⟨N1, hp1, hn1⟩, hb3⟩
  have hc3 := HC2.out.below hb3 HC2.out.lt
  have HB3 := Sd.mk (beyond HB2.out hb3)
  clear f0 f1 f2 f3 f4 f5 f6
  have f0 : w3.cell? ⟨CB, 0, none⟩ = some (.int .i64 64) := hc3.cell (i := 0) rfl
  have f1 : w3.cell? ⟨CB, 1, none⟩ = some (.int .i64 1) := hc3.cell (i := 1) rfl
  have f2 : w3.cell? ⟨CB, 2, none⟩ = some (.int .i64 100) := hc3.cell (i := 2) rfl
  have f3 : w3.cell? ⟨CB, 3, none⟩ = some (.int .i64 100) := hc3.cell (i := 3) rfl
  have f4 : w3.cell? ⟨CB, 4, none⟩ = some (.int .i64 100) := hc3.cell (i := 4) rfl
  have f5 : w3.cell? ⟨CB, 5, none⟩ = some (.int .i64 4) := hc3.cell (i := 5) rfl
  have f6 : w3.cell? ⟨CB, 6, none⟩ = some (.int .i64 8) := hc3.cell (i := 6) rfl
  have HP1 := Sd.mk (And.intro hp1 (fun k hk => Nat.le_trans HB2.out.size (hn1 k hk)))
  clear hp1 hn1 hb3 hc3
  go_wp2_with fail
  refine (HN.out _).mono ?_
  rintro e w4 ⟨E2, T2, b2, rfl, ⟨N2, hp2, hn2⟩, hb4⟩
  have Kx := eng_kind E1 T1 b1 cfgA
  have Ky := eng_kind E2 T2 b2 cfgA
  have KA := eng_apart E1 T1 b1 cfgA E2 T2 b2 cfgA
  have HB4 := Sd.mk (beyond HB3.out hb4)
  have hT4 : Two (EngP E1 T1 b1 cfgA) (EngP E2 T2 b2 cfgA) M.heap.size N1 N2 [] [] w4 := ⟨Kx.below HP1.out.1 hb4, hp2, fun k h1 h2 => by have := Kx.lt HP1.out.1 k h1; have := hn2 k h2; omega, fun k hk => by
    rcases hk with hk | hk
    · exact HP1.out.2 k hk
    · exact Nat.le_trans HB3.out.size (hn2 k hk)⟩
  have hlb : ∀ (N : Nat → Prop), (∀ k, N k → M.heap.size ≤ k) → 0 < l.length → ∀ a, A = some a → ¬ N a.block := fun N hN h0 a ha hn => by
    obtain ⟨g, o, e1, e2, _⟩ := HLI.out.lst.at' 0 h0
    rw [ha] at e1; injection e1 with e1; subst e1
    have := hN _ hn; have := HB.out.size; simp only at *; omega
  have HLB := Sd.mk hlb
  have HKK := Sd.mk (And.intro Kx (And.intro Ky KA))
  have HT4 := Sd.mk hT4
  have HSX := Sd.mk (Kx.set hT4.x l A cap HLI.out.wf (by omega) HLI.out.le (HLI.out.lst.below (beyond HB.out HB4.out)) (hlb N1 (fun k hk => hT4.low k (.inl hk))))
  clear f0 f1 f2 f3 f4 f5 f6 Kx Ky KA hT4 hlb hp2 hn2 hb4 HP1
  go_wp2_with fail
  refine HSX.out.mono ?_
  rintro e w5 ⟨rfl, hch⟩
  obtain ⟨N1', hT5, hb5, _, _⟩ := HT4.out.chgX HKK.out.2.1 HKK.out.2.2 HB4.out.size hch
  have HB5 := Sd.mk (HB4.out.trans hb5)
  have HT5 := Sd.mk hT5
  have HSY := Sd.mk (HKK.out.2.1.set hT5.y l A cap HLI.out.wf (by omega) HLI.out.le (HLI.out.lst.below (beyond HB.out HB5.out)) (HLB.out N2 (fun k hk => hT5.low k (.inr hk))))
  clear hch hT5 hb5
  generalize setE cfgA (fun _ => 0) l = code at *
  generalize (if code = 0 then l else []) = rx at HT5 HSY
  go_wp2_with fail
  refine HSY.out.mono ?_
  rintro e w6 ⟨rfl, hch⟩
  obtain ⟨N2', hT6, hb6, _, _⟩ := HT5.out.chgY HKK.out.1 HKK.out.2.2 HB5.out.size hch
  have HB6 := Sd.mk (HB5.out.trans hb6)
  have HT6 := Sd.mk hT6
  obtain ⟨s0, s1, s2, s3, s4, t0, t1, t2, t3, KT⟩ := hT6.x.tells h HWF.out.2
  obtain ⟨hit, vid, act, hm, _⟩ := match_shape rx cfgA.dflt h
  rw [hm] at KT
  have KT6 := KT w6 (fun _ => False) (Only.refl _ _) (fun k _ hk => hk.elim)
  have HKT := Sd.mk KT
  have HK1 := Sd.mk KT6.1
  have hh6 := HRH.out.2.below HB6.out HRH.out.2.lt
  obtain ⟨b0, b1', b2', b3, b4⟩ := show w6.cell? ⟨w.heap.size + 1, 0, none⟩ = some (.int .u32 h.src) ∧ w6.cell? ⟨w.heap.size + 1, 1, none⟩ = some (.int .u32 h.dst) ∧ w6.cell? ⟨w.heap.size + 1, 2, none⟩ = some (.int .u16 h.sp) ∧ w6.cell? ⟨w.heap.size + 1, 3, none⟩ = some (.int .u16 h.dp) ∧ w6.cell? ⟨w.heap.size + 1, 4, none⟩ = some (.int .u8 h.pr) from ⟨hh6.cell (i := 0) rfl, hh6.cell (i := 1) rfl, hh6.cell (i := 2) rfl, hh6.cell (i := 3) rfl, hh6.cell (i := 4) rfl⟩
  clear hch hT6 hb6 KT KT6 hm hh6 HSX HSY
  go_wp2_with fail
  refine HK1.out.mono ?_
  rintro x w7 ⟨rfl, hb7⟩
  clear b0 b1' b2' b3 b4
  go_upto_region 12 with fail
  obtain ⟨W8, hW8⟩ : ∃ W8, (w7.alloc (.cells #[.bool hit, .int .i64 vid, .int .i64 act] 36)).alloc (.cells #[.int .i64 s0, .int .i64 s1, .int .i64 s2, .int .i64 s3, .int .i64 s4] 38) = W8 := ⟨_, rfl⟩
  have hb8 : Below w6.heap.size w6 W8 := by rw [← hW8]; exact below_alloc (below_alloc hb7 _) _
  have X1 : Sd (Blk W8 w7.heap.size #[.bool hit, .int .i64 vid, .int .i64 act] 36) := ⟨by rw [← hW8]; exact (Blk.new _ _ _).alloc _⟩
  have X2 : Sd (Blk W8 (w7.heap.size + 1) #[.int .i64 s0, .int .i64 s1, .int .i64 s2, .int .i64 s3, .int .i64 s4] 38) := ⟨by rw [← hW8]; exact blkN (by simp) _ _⟩
  have HL8 : Sd (w6.heap.size ≤ w7.heap.size) := ⟨hb7.size⟩
  try rw [hW8]
  generalize w7.heap.size = P1 at X1 X2 HL8 ⊢
  have HB8 := Sd.mk hb8
  have HK2 := Sd.mk (HKT.out W8 (fun _ => False) (below_only hb8 _) (fun k _ hk => hk.elim)).2
  clear hW8 hb7 hb8
  go_wp2_with fail
  refine HK2.out.mono ?_
  rintro x w9 ⟨rfl, hb9⟩
  go_upto_region 13 with fail
  obtain ⟨W10, hW10⟩ : ∃ W10, w9.alloc (.cells #[.int .i64 t0, .int .i64 t1, .int .i64 t2, .int .i64 t3] 43) = W10 := ⟨_, rfl⟩
  have hb10 : Below W8.heap.size W8 W10 := by rw [← hW10]; exact below_alloc hb9 _
  have X3 : Sd (Blk W10 w9.heap.size #[.int .i64 t0, .int .i64 t1, .int .i64 t2, .int .i64 t3] 43) := ⟨by rw [← hW10]; exact Blk.new _ _ _⟩
  have HL10 : Sd (W8.heap.size ≤ w9.heap.size) := ⟨hb9.size⟩
  try rw [hW10]
  generalize w9.heap.size = P2 at X3 HL10 ⊢
  have HBA := Sd.mk (beyond HB8.out hb10)
  have HT10 := Sd.mk (HT6.out.more HKK.out.1 HKK.out.2.1 HBA.out)
  have HB10 := Sd.mk (beyond HB6.out HBA.out)
  have X1a := Sd.mk (X1.out.below hb10 X1.out.lt)
  have X2a := Sd.mk (X2.out.below hb10 X2.out.lt)
  have hr10 := HRH.out.1.below HB10.out HRH.out.1.lt
  obtain ⟨r0, r1, r2, r3, r4, r5, r6, r7, r8, r9, r10, r11⟩ := show W10.cell? ⟨w.heap.size, 0, none⟩ = some (.int .i64 r.id) ∧ W10.cell? ⟨w.heap.size, 1, none⟩ = some (.int .u32 r.src.a) ∧ W10.cell? ⟨w.heap.size, 2, none⟩ = some (.int .i64 r.src.n) ∧ W10.cell? ⟨w.heap.size, 3, none⟩ = some (.int .u32 r.dst.a) ∧ W10.cell? ⟨w.heap.size, 4, none⟩ = some (.int .i64 r.dst.n) ∧ W10.cell? ⟨w.heap.size, 5, none⟩ = some (.int .u16 r.sp.lo) ∧ W10.cell? ⟨w.heap.size, 6, none⟩ = some (.int .u16 r.sp.hi) ∧ W10.cell? ⟨w.heap.size, 7, none⟩ = some (.int .u16 r.dp.lo) ∧ W10.cell? ⟨w.heap.size, 8, none⟩ = some (.int .u16 r.dp.hi) ∧ W10.cell? ⟨w.heap.size, 9, none⟩ = some (.int .u8 r.pr.v) ∧ W10.cell? ⟨w.heap.size, 10, none⟩ = some (.int .u8 r.pr.c) ∧ W10.cell? ⟨w.heap.size, 11, none⟩ = some (.int .i64 r.act) from ⟨hr10.cell (i := 0) rfl, hr10.cell (i := 1) rfl, hr10.cell (i := 2) rfl, hr10.cell (i := 3) rfl, hr10.cell (i := 4) rfl, hr10.cell (i := 5) rfl, hr10.cell (i := 6) rfl, hr10.cell (i := 7) rfl, hr10.cell (i := 8) rfl, hr10.cell (i := 9) rfl, hr10.cell (i := 10) rfl, hr10.cell (i := 11) rfl⟩
  have HIY := Sd.mk (HKK.out.2.1.ins HT10.out.y 0 r HWF.out.1)
  clear hW10 hb9 hb10 hr10 X1 X2
  go_wp2_with fail
  refine HIY.out.mono ?_
  rintro x w11 ⟨rfl, hch⟩
  obtain ⟨N2a, hT11, hb11, hO11, hn11⟩ := HT10.out.chgY HKK.out.1 HKK.out.2.2 HB10.out.size hch
  have HT11 := Sd.mk hT11
  have HB11 := Sd.mk (HB10.out.trans hb11)
  have HO11 := Sd.mk (And.intro hO11 hn11)
  have HDY := Sd.mk (HKK.out.2.1.del hT11.y id)
  clear hch hT11 hb11 hO11 hn11 r0 r1 r2 r3 r4 r5 r6 r7 r8 r9 r10 r11 HIY
  generalize insL cfgA (fun _ => 0) rx 0 r = ry1 at *
  go_wp2_with fail
  refine HDY.out.mono ?_
  rintro x w12 ⟨rfl, hch⟩
  obtain ⟨N2b, hT12, hb12, hO12, hn12⟩ := HT11.out.chgY HKK.out.1 HKK.out.2.2 HB11.out.size hch
  have HT12 := Sd.mk hT12
  have HB12 := Sd.mk (HB11.out.trans hb12)
  have HO12 : Sd (Only W10 w12 N2' ∧ ∀ k, N2b k → N2' k ∨ W10.heap.size ≤ k) := ⟨HO11.out.1.trans hO12 (fun b hb h => by rcases HO11.out.2 b h with h | h; exact h; omega), fun k hk => by
    have hs := HO11.out.1.size
    rcases hn12 k hk with h | h
    · exact HO11.out.2 k h
    · exact .inr (by omega)⟩
  have HSZ : Sd (Calls Try.prog 15 #[.pointer (some ⟨E2, 0, none⟩), .slice none 0 0] w12 fun e w' => e = .returned (.int .i64 (setE cfgA (fun _ => 0) [])) ∧ Chg (EngP E2 T2 b2 cfgA) w12 N2b (if setE cfgA (fun _ => 0) [] = 0 then [] else delL ry1 id) w') := ⟨HKK.out.2.1.set hT12.y [] none 0 (by simp) (by simp) (by simp) ⟨fun k hk => absurd hk (by simp)⟩ (fun _ a ha => by cases ha)⟩
  clear hch hT12 hb12 hO12 hn12 HDY
  go_wp2_with fail
  refine HSZ.out.mono ?_
  rintro x w13 ⟨rfl, hch⟩
  obtain ⟨N2c, hT13, hb13, hO13, hn13⟩ := HT12.out.chgY HKK.out.1 HKK.out.2.2 HB12.out.size hch
  have HB13 := Sd.mk (HB12.out.trans hb13)
  have HO13 : Sd (Only W10 w13 N2') := ⟨HO12.out.1.trans hO13 (fun b hb h => by rcases HO12.out.2 b h with h | h; exact h; omega)⟩
  have HAL : Sd (∀ W, Below w13.heap.size w13 W → Only w6 W N2' ∧ ∀ k, k < w6.heap.size → N2' k → ¬ N1' k ∧ Wide w6 k) := ⟨fun W hW => ⟨((below_only HBA.out N2').trans HO13.out (fun _ _ h => h)).trans (below_only hW (fun _ => False)) (fun _ _ h => h.elim), fun k _ hk => ⟨fun h1 => HT6.out.disj k h1 hk, HT6.out.y.wide k hk⟩⟩⟩
  have hlt2 : ∀ k, N2' k → k < w6.heap.size := fun k hk => HKK.out.2.1.lt HT6.out.y k hk
  have hs68 := HB8.out.size
  have x1 := X1a.out.only HO13.out (fun hn => by have := hlt2 _ hn; have := HL8.out; omega)
  have x2 := X2a.out.only HO13.out (fun hn => by have := hlt2 _ hn; have := HL8.out; omega)
  have x3 := X3.out.only HO13.out (fun hn => by have := hlt2 _ hn; have := HL10.out; omega)
  have X1b := Sd.mk x1
  have X2b := Sd.mk x2
  have X3b := Sd.mk x3
  have HA1 := HAL.out w13 (Below.refl _ _)
  have HKA := Sd.mk (HKT.out w13 N2' HA1.1 HA1.2).1
  have hh13 := HRH.out.2.below HB13.out HRH.out.2.lt
  obtain ⟨b0, b1', b2', b3, b4⟩ := show w13.cell? ⟨w.heap.size + 1, 0, none⟩ = some (.int .u32 h.src) ∧ w13.cell? ⟨w.heap.size + 1, 1, none⟩ = some (.int .u32 h.dst) ∧ w13.cell? ⟨w.heap.size + 1, 2, none⟩ = some (.int .u16 h.sp) ∧ w13.cell? ⟨w.heap.size + 1, 3, none⟩ = some (.int .u16 h.dp) ∧ w13.cell? ⟨w.heap.size + 1, 4, none⟩ = some (.int .u8 h.pr) from ⟨hh13.cell (i := 0) rfl, hh13.cell (i := 1) rfl, hh13.cell (i := 2) rfl, hh13.cell (i := 3) rfl, hh13.cell (i := 4) rfl⟩
  clear hch hT13 hb13 hO13 hn13 hh13 x1 x2 x3 hlt2 hs68 HA1 HSZ
  go_wp2_with fail
  refine HKA.out.mono ?_
  rintro x w14 ⟨rfl, hb14⟩
  clear b0 b1' b2' b3 b4
  go_upto_region 17 with fail
  obtain ⟨W15, hW15⟩ : ∃ W15, (w14.alloc (.cells #[.bool hit, .int .i64 vid, .int .i64 act] 36)).alloc (.cells #[.int .i64 s0, .int .i64 s1, .int .i64 s2, .int .i64 s3, .int .i64 s4] 38) = W15 := ⟨_, rfl⟩
  have hb15 : Below w13.heap.size w13 W15 := by rw [← hW15]; exact below_alloc (below_alloc hb14 _) _
  have x4 : Blk W15 w14.heap.size #[.bool hit, .int .i64 vid, .int .i64 act] 36 := by rw [← hW15]; exact (Blk.new _ _ _).alloc _
  have x5 : Blk W15 (w14.heap.size + 1) #[.int .i64 s0, .int .i64 s1, .int .i64 s2, .int .i64 s3, .int .i64 s4] 38 := by rw [← hW15]; exact blkN (by simp) _ _
  try rw [hW15]
  generalize w14.heap.size = P3 at x4 x5 ⊢
  have x1 := X1b.out.below hb15 X1b.out.lt
  have x2 := X2b.out.below hb15 X2b.out.lt
  have x3 := X3b.out.below hb15 X3b.out.lt
  have KS : ∀ W, Below W15.heap.size W15 W → ApartS W15 P1 P2 P3 (P3 + 1) hit vid act s0 s1 s2 s3 s4 t0 t1 t2 t3 W := fun W hW => by
    have y1 := x1.below hW x1.lt
    have y2 := x2.below hW x2.lt
    have y3 := x3.below hW x3.lt
    have y4 := x4.below hW x4.lt
    have y5 := x5.below hW x5.lt
    exact ⟨hW, y1.cell (i := 0) rfl, y1.cell (i := 1) rfl, y1.cell (i := 2) rfl, y2.cell (i := 0) rfl, y2.cell (i := 1) rfl, y2.cell (i := 2) rfl, y2.cell (i := 3) rfl, y2.cell (i := 4) rfl, y3.cell (i := 0) rfl, y3.cell (i := 1) rfl, y3.cell (i := 2) rfl, y3.cell (i := 3) rfl, y4.cell (i := 0) rfl, y4.cell (i := 1) rfl, y4.cell (i := 2) rfl, y5.cell (i := 0) rfl, y5.cell (i := 1) rfl, y5.cell (i := 2) rfl, y5.cell (i := 3) rfl, y5.cell (i := 4) rfl⟩
  have HA2 : Sd (∀ W, ApartS W15 P1 P2 P3 (P3 + 1) hit vid act s0 s1 s2 s3 s4 t0 t1 t2 t3 W → Calls Try.prog 11 #[] W fun e w' => e = .returned (.bool true) ∧ ApartS W15 P1 P2 P3 (P3 + 1) hit vid act s0 s1 s2 s3 s4 t0 t1 t2 t3 w') := ⟨fun W hW => (HAW.out W).mono fun e w' h => ⟨h.1, KS w' (beyond hW.1 h.2)⟩⟩
  have HT2 : Sd (∀ W, ApartS W15 P1 P2 P3 (P3 + 1) hit vid act s0 s1 s2 s3 s4 t0 t1 t2 t3 W → Calls Try.prog 14 #[.pointer (some ⟨E1, 0, none⟩)] W fun e w' => e = .returned (.agg #[.int .i64 t0, .int .i64 t1, .int .i64 t2, .int .i64 t3]) ∧ ApartS W15 P1 P2 P3 (P3 + 1) hit vid act s0 s1 s2 s3 s4 t0 t1 t2 t3 w') := ⟨fun W hW => by
    have HA := HAL.out W (beyond hb15 hW.1)
    exact (HKT.out W N2' HA.1 HA.2).2.mono fun e w' h => ⟨h.1, KS w' (beyond hW.1 h.2)⟩⟩
  have HS0 := Sd.mk (KS W15.drew (Below.refl _ _).drew)
  have HFIN : Sd (∀ W, ApartS W15 P1 P2 P3 (P3 + 1) hit vid act s0 s1 s2 s3 s4 t0 t1 t2 t3 W → Below w.heap.size w W) := ⟨fun W hW => beyond HB.out (HB13.out.trans ((beyond hb15 hW.1).mono HB13.out.size))⟩
  have hqv := eqVx hit vid act
  have hqs := eqSx s0 s1 s2 s3 s4
  have hqt := eqTx t0 t1 t2 t3
  have hgv := guardV
  have hgs := guardSt
  have hgt := guardTt
  clear hW15 hb14 hb15 x1 x2 x3 x4 x5 KS
  refine wp_region_quietC (C := ApartS W15 P1 P2 P3 (P3 + 1) hit vid act s0 s1 s2 s3 s4 t0 t1 t2 t3) (by kernel_rfl) (by kernel_rfl) (HS0.out) ?_
  repeat (first
    | go_big_quiet_skip
    | (go_big_quiet_want
       first
         | (refine quiet_run ?_
            apply Exists.intro
            refine ⟨fun w hw => ?_, ?_⟩
            · ((unfold ApartS at hw); go_split_ands; go_simp; (try with_reducible rfl))
            go_big_quiet_on
            try simp only [Act.put, List.setIfInBounds_toArray, List.set_cons_zero, List.set_cons_succ])
         | (apply Exists.intro
            refine ⟨fun w hw => ?_, ?_⟩
            · (unfold Oper.quietAt; go_simp; first | (with_reducible exact HA2.out _ hw) | (with_reducible exact HT2.out _ hw))
            go_big_quiet_on
            try simp only [Act.put, List.setIfInBounds_toArray, List.set_cons_zero, List.set_cons_succ])))
  refine wpQuiet_nil ?_
  intro W hW
  have HZ := Sd.mk (HFIN.out W hW)
  clear hW hqv hqs hqt hgv hgs hgt
  go_wp2_with fail
  go_ret
  exact ⟨rfl, HZ.out⟩
set_option maxHeartbeats 1000000 in
set_option maxRecDepth 100000 in
theorem lawApart_any (l : List Rul) (A : Option Addr) (cap : Nat) (r : Rul) (id : Int) (h : Hdr) (hr : r.Wf) (hh : h.Wf) (w : World) (hL : RulesIn w A cap l) :
    Calls Try.prog 5 #[.slice A l.length cap, .agg #[.int .i64 r.id, .int .u32 r.src.a, .int .i64 r.src.n, .int .u32 r.dst.a, .int .i64 r.dst.n, .int .u16 r.sp.lo, .int .u16 r.sp.hi, .int .u16 r.dp.lo, .int .u16 r.dp.hi, .int .u8 r.pr.v, .int .u8 r.pr.c, .int .i64 r.act], .int .i64 id, .agg #[.int .u32 h.src, .int .u32 h.dst, .int .u16 h.sp, .int .u16 h.dp, .int .u8 h.pr]] w fun e w' => e = .returned (.bool true) ∧ Below w.heap.size w w' := by
  by_cases hlen : l.length ≤ 64
  · exact lawApart_on l A cap r id h hr hh w hL hlen
  · have hlen' : 64 < l.length := by omega
    clear hlen hL hr hh
    go_enter Try.func5, Try.ntmps5
    go_wp2_with fail
    go_ret
    exact ⟨rfl, below_alloc (below_alloc (Below.refl _ _) _) _⟩
end Go.Proofs.Ytljliopmphaoeaa
