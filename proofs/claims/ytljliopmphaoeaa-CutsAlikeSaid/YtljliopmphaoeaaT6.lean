/- Delete and Insert of package table. -/
import Derived.Test.YtljliopmphaoeaaT5
namespace Go.Proofs.Ytljliopmphaoeaa
open Go Go.RowKit Go.Proofs.Ytljliopmphaoeaa.Q

/-- what a change of a table leaves -/
def TabOut (w : World) (B base : Nat) (c : Cfg) (v : Value) (rs : List Rul) (w' : World) : Prop :=
  ∃ v', TabAt w' B c v' ∧ OwnR w' base v' rs ∧ (v'.ownBlock = v.ownBlock ∨ ∃ g, w.heap.size ≤ g ∧ v'.ownBlock = some g) ∧ Only w w' (fun k => k = B ∨ v.ownBlock = some k)
set_option maxHeartbeats 2000000 in
set_option maxRecDepth 100000 in
theorem tabDelete_none (B : Nat) (c : Cfg) (rs : List Rul) (base : Nat) (v : Value) (id : Int) (w : World) (hf : findI rs id = -1) (hl : rs.length ≤ 100001) (hT : TabAt w B c v) (hO : OwnR w base v rs) :
    Calls Try.prog 32 #[.pointer (some ⟨B, 0, none⟩), .int .i64 id] w fun e w' => e = .returned (.int .i64 114) ∧ w = w' := by
  obtain ⟨A, cap, rfl⟩ := hO.slice
  have K := find_any rs A cap id (by omega) w hO.ruls
  rw [hf] at K
  have HK := Sd.mk K
  have c7 := hT.cell (i := 7) rfl
  clear K hT hO hf
  go_enter Try.func32, Try.ntmps32
  go_wp2_with fail
  refine HK.out.mono ?_
  rintro e w1 ⟨rfl, rfl⟩
  go_wp2
  go_ret
  exact ⟨rfl, rfl⟩
set_option maxHeartbeats 2000000 in
set_option maxRecDepth 100000 in
theorem tabDelete_some (B : Nat) (c : Cfg) (rs : List Rul) (base : Nat) (v : Value) (id : Int) (k : Nat) (w : World) (hk : k < rs.length) (hf : findI rs id = k) (hl : rs.length ≤ 100001) (hT : TabAt w B c v) (hO : OwnR w base v rs) (hB : B < base) :
    Calls Try.prog 32 #[.pointer (some ⟨B, 0, none⟩), .int .i64 id] w fun e w' => e = .returned (.int .i64 0) ∧ TabOut w B base c v (rs.take k ++ rs.drop (k + 1)) w' := by
  obtain ⟨A, cap, rfl⟩ := hO.slice
  have K := find_any rs A cap id (by omega) w hO.ruls
  rw [hf] at K
  have HK := Sd.mk K
  have HL := Sd.mk (tabLift_any B c rs base _ w k hk hl hT hO hB)
  have c7 := hT.cell (i := 7) rfl
  clear K hT hO hf
  go_enter Try.func32, Try.ntmps32
  go_wp2_with fail
  refine HK.out.mono ?_
  rintro e w1 ⟨rfl, rfl⟩
  go_wp2_with fail
  refine HL.out.mono ?_
  rintro e w1 ⟨rfl, v', h1, h2, h3, h4⟩
  have HQ : Sd (TabOut w B base c (.slice A rs.length cap) (rs.take k ++ rs.drop (k + 1)) w1) := ⟨v', h1, h2, .inl h3, h4⟩
  clear h1 h2 h3 h4
  go_wp2
  go_ret
  exact ⟨rfl, HQ.out⟩
/-- what the refusals of Insert are -/
def insI (c : Cfg) (rs : List Rul) (p : Int) (r : Rul) : Int := if takesI rs r ≠ 0 then takesI rs r else if btw p 0 rs.length = false then 112 else if c.max ≤ rs.length then 113 else 0
theorem ownR_alloc {w : World} {base : Nat} {v : Value} {rs : List Rul} (h : OwnR w base v rs) (o : Obj) : OwnR (w.alloc o) base v rs := World.ownsRow.alloc h o
theorem ownR_below {w w' : World} {base L : Nat} {v : Value} {rs : List Rul} (h : OwnR w base v rs) (hb : Below L w w') (hL : w.heap.size ≤ L) : OwnR w' base v rs :=
  ownsRow_below h hb (fun g hg => by have := (World.ownsRow.lt h g hg).2; omega)
theorem TabOut.before {w0 w w' : World} {B base : Nat} {c : Cfg} {v : Value} {rs : List Rul} (h : TabOut w B base c v rs w') (hb : Below w0.heap.size w0 w) : TabOut w0 B base c v rs w' := by
  obtain ⟨v', h1, h2, h3, h4⟩ := h
  refine ⟨v', h1, h2, ?_, (below_only hb _).trans h4 (fun _ _ h => h)⟩
  rcases h3 with h3 | ⟨g, h3, h5⟩
  · exact .inl h3
  · exact .inr ⟨g, Nat.le_trans hb.size h3, h5⟩
set_option maxHeartbeats 2000000 in
set_option maxRecDepth 100000 in
theorem tabInsert_no (B : Nat) (c : Cfg) (rs : List Rul) (base : Nat) (v : Value) (p : Int) (r : Rul) (w : World) (hw : r.Wf) (hl : rs.length ≤ 100000) (hT : TabAt w B c v) (hO : OwnR w base v rs) (hn : insI c rs p r ≠ 0) :
    Calls Try.prog 31 #[.pointer (some ⟨B, 0, none⟩), .int .i64 p, .agg #[.int .i64 r.id, .int .u32 r.src.a, .int .i64 r.src.n, .int .u32 r.dst.a, .int .i64 r.dst.n, .int .u16 r.sp.lo, .int .u16 r.sp.hi, .int .u16 r.dp.lo, .int .u16 r.dp.hi, .int .u8 r.pr.v, .int .u8 r.pr.c, .int .i64 r.act]] w fun e w' => e = .returned (.int .i64 (insI c rs p r)) ∧ Below w.heap.size w w' := by
  obtain ⟨A, cap, rfl⟩ := hO.slice
  obtain ⟨W0, hW0⟩ : ∃ W0, w.alloc (.cells #[.int .i64 r.id, .int .u32 r.src.a, .int .i64 r.src.n, .int .u32 r.dst.a, .int .i64 r.dst.n, .int .u16 r.sp.lo, .int .u16 r.sp.hi, .int .u16 r.dp.lo, .int .u16 r.dp.hi, .int .u8 r.pr.v, .int .u8 r.pr.c, .int .i64 r.act] 60) = W0 := ⟨_, rfl⟩
  have hbW : Below w.heap.size w W0 := by rw [← hW0]; exact below_alloc (Below.refl _ _) _
  have HBW := Sd.mk hbW
  have hkW : Blk W0 w.heap.size #[.int .i64 r.id, .int .u32 r.src.a, .int .i64 r.src.n, .int .u32 r.dst.a, .int .i64 r.dst.n, .int .u16 r.sp.lo, .int .u16 r.sp.hi, .int .u16 r.dp.lo, .int .u16 r.dp.hi, .int .u8 r.pr.v, .int .u8 r.pr.c, .int .i64 r.act] 60 := by rw [← hW0]; exact Blk.new _ _ _
  have HKW := Sd.mk hkW
  have e7 := (hT.below hbW hT.lt).cell (i := 7) rfl
  obtain ⟨d0, d1, d2, d3, d4, d5, d6, d7, d8, d9, d10, d11⟩ := show W0.cell? ⟨w.heap.size, 0, none⟩ = some (.int .i64 r.id) ∧ W0.cell? ⟨w.heap.size, 1, none⟩ = some (.int .u32 r.src.a) ∧ W0.cell? ⟨w.heap.size, 2, none⟩ = some (.int .i64 r.src.n) ∧ W0.cell? ⟨w.heap.size, 3, none⟩ = some (.int .u32 r.dst.a) ∧ W0.cell? ⟨w.heap.size, 4, none⟩ = some (.int .i64 r.dst.n) ∧ W0.cell? ⟨w.heap.size, 5, none⟩ = some (.int .u16 r.sp.lo) ∧ W0.cell? ⟨w.heap.size, 6, none⟩ = some (.int .u16 r.sp.hi) ∧ W0.cell? ⟨w.heap.size, 7, none⟩ = some (.int .u16 r.dp.lo) ∧ W0.cell? ⟨w.heap.size, 8, none⟩ = some (.int .u16 r.dp.hi) ∧ W0.cell? ⟨w.heap.size, 9, none⟩ = some (.int .u8 r.pr.v) ∧ W0.cell? ⟨w.heap.size, 10, none⟩ = some (.int .u8 r.pr.c) ∧ W0.cell? ⟨w.heap.size, 11, none⟩ = some (.int .i64 r.act) from ⟨hkW.cell (i := 0) rfl, hkW.cell (i := 1) rfl, hkW.cell (i := 2) rfl, hkW.cell (i := 3) rfl, hkW.cell (i := 4) rfl, hkW.cell (i := 5) rfl, hkW.cell (i := 6) rfl, hkW.cell (i := 7) rfl, hkW.cell (i := 8) rfl, hkW.cell (i := 9) rfl, hkW.cell (i := 10) rfl, hkW.cell (i := 11) rfl⟩
  have hd0 : Below W0.heap.size W0 W0.drew := (Below.refl _ _).drew
  have HK := Sd.mk (takes_any (.pointer (some ⟨B, 0, none⟩)) rs A cap r hw (by omega) W0.drew ((hO.ruls.below hbW).below hd0))
  clear hbW hkW hd0
  have c7 := hT.cell (i := 7) rfl
  have cl := hT.lt
  have HT := Sd.mk hT
  have HN := Sd.mk hn
  clear hT hO hn
  by_cases h1 : takesI rs r ≠ 0
  · have HQ : Sd (insI c rs p r = takesI rs r) := ⟨by unfold insI; rw [if_pos h1]⟩
    have ht : (takesI rs r != 0) = true := by simp [h1]
    clear h1
    go_enter Try.func31, Try.ntmps31
    go_wp2_with fail
    try rw [hW0]
    clear hW0
    refine wp_region_still_tail 6 (by kernel_rfl) (by kernel_rfl) ?_
    change wpStill _ _ W0.drew _ _ _
    simp only [List.take_succ_cons, List.take_zero, List.drop_succ_cons, List.drop_zero]
    repeat still_step
    refine wpStill_nil ?_
    change wpList _ _ _ _ _ W0.drew
    go_wp2_with fail
    refine HK.out.mono ?_
    rintro e w1 ⟨rfl, hb⟩
    have HB := Sd.mk (beyond HBW.out.drew hb)
    clear hb
    go_wp2
    go_ret
    exact ⟨ret_int HQ.out.symm, HB.out⟩
  · have h1 : takesI rs r = 0 := by omega
    rw [h1] at HK
    have HJ := Sd.mk (fun W => in_any p 0 rs.length W)
    by_cases h2 : btw p 0 rs.length = false
    · have HQ : Sd (insI c rs p r = 112) := ⟨by unfold insI; rw [if_neg (by omega), if_pos h2]⟩
      rw [h2] at HJ
      clear h1 h2
      go_enter Try.func31, Try.ntmps31
      go_wp2_with fail
      try rw [hW0]
      clear hW0
      refine wp_region_still_tail 6 (by kernel_rfl) (by kernel_rfl) ?_
      change wpStill _ _ W0.drew _ _ _
      simp only [List.take_succ_cons, List.take_zero, List.drop_succ_cons, List.drop_zero]
      repeat still_step
      refine wpStill_nil ?_
      change wpList _ _ _ _ _ W0.drew
      go_wp2_with fail
      refine HK.out.mono ?_
      rintro e w1 ⟨rfl, hb⟩
      have hT1 := HT.out.below (beyond HBW.out.drew hb) HT.out.lt
      have c7 := hT1.cell (i := 7) rfl
      have HB := Sd.mk (beyond HBW.out.drew hb)
      clear hb hT1
      go_wp2_with fail
      refine (HJ.out _).mono ?_
      rintro e w2 ⟨rfl, rfl⟩
      go_wp2
      go_ret
      exact ⟨ret_int HQ.out.symm, HB.out⟩
    · have h2' : btw p 0 rs.length = true := by simpa using h2
      have h3 : c.max ≤ rs.length := by
        have := HN.out
        unfold insI at this
        rw [if_neg (by omega), if_neg h2] at this
        by_cases h3 : c.max ≤ rs.length
        · exact h3
        · rw [if_neg h3] at this; exact absurd rfl this
      have HQ : Sd (insI c rs p r = 113) := ⟨by unfold insI; rw [if_neg (by omega), if_neg h2, if_pos h3]⟩
      rw [h2'] at HJ
      clear h1 h2 h2'
      go_enter Try.func31, Try.ntmps31
      go_wp2_with fail
      try rw [hW0]
      clear hW0
      refine wp_region_still_tail 6 (by kernel_rfl) (by kernel_rfl) ?_
      change wpStill _ _ W0.drew _ _ _
      simp only [List.take_succ_cons, List.take_zero, List.drop_succ_cons, List.drop_zero]
      repeat still_step
      refine wpStill_nil ?_
      change wpList _ _ _ _ _ W0.drew
      go_wp2_with fail
      refine HK.out.mono ?_
      rintro e w1 ⟨rfl, hb⟩
      have hT1 := HT.out.below (beyond HBW.out.drew hb) HT.out.lt
      have c7 := hT1.cell (i := 7) rfl
      have c0 := hT1.cell (i := 0) rfl
      have HB := Sd.mk (beyond HBW.out.drew hb)
      clear hb hT1
      go_wp2_with fail
      refine (HJ.out _).mono ?_
      rintro e w2 ⟨rfl, rfl⟩
      go_wp2
      go_ret
      exact ⟨ret_int HQ.out.symm, HB.out⟩
set_option maxHeartbeats 2000000 in
set_option maxRecDepth 100000 in
theorem tabInsert_ok (B : Nat) (c : Cfg) (rs : List Rul) (base : Nat) (v : Value) (p : Nat) (r : Rul) (w : World) (hw : r.Wf) (hl : rs.length ≤ 100000) (hT : TabAt w B c v) (hO : OwnR w base v rs) (hB : B < base) (hbase : base ≤ w.heap.size) (hp : p ≤ rs.length) (hn : insI c rs p r = 0) :
    Calls Try.prog 31 #[.pointer (some ⟨B, 0, none⟩), .int .i64 p, .agg #[.int .i64 r.id, .int .u32 r.src.a, .int .i64 r.src.n, .int .u32 r.dst.a, .int .i64 r.dst.n, .int .u16 r.sp.lo, .int .u16 r.sp.hi, .int .u16 r.dp.lo, .int .u16 r.dp.hi, .int .u8 r.pr.v, .int .u8 r.pr.c, .int .i64 r.act]] w fun e w' => e = .returned (.int .i64 0) ∧ TabOut w B base c v (rs.take p ++ r :: rs.drop p) w' := by
  obtain ⟨A, cap, rfl⟩ := hO.slice
  obtain ⟨W0, hW0⟩ : ∃ W0, w.alloc (.cells #[.int .i64 r.id, .int .u32 r.src.a, .int .i64 r.src.n, .int .u32 r.dst.a, .int .i64 r.dst.n, .int .u16 r.sp.lo, .int .u16 r.sp.hi, .int .u16 r.dp.lo, .int .u16 r.dp.hi, .int .u8 r.pr.v, .int .u8 r.pr.c, .int .i64 r.act] 60) = W0 := ⟨_, rfl⟩
  have hbW : Below w.heap.size w W0 := by rw [← hW0]; exact below_alloc (Below.refl _ _) _
  have HBW := Sd.mk hbW
  have hkW : Blk W0 w.heap.size #[.int .i64 r.id, .int .u32 r.src.a, .int .i64 r.src.n, .int .u32 r.dst.a, .int .i64 r.dst.n, .int .u16 r.sp.lo, .int .u16 r.sp.hi, .int .u16 r.dp.lo, .int .u16 r.dp.hi, .int .u8 r.pr.v, .int .u8 r.pr.c, .int .i64 r.act] 60 := by rw [← hW0]; exact Blk.new _ _ _
  have HKW := Sd.mk hkW
  have e7 := (hT.below hbW hT.lt).cell (i := 7) rfl
  obtain ⟨d0, d1, d2, d3, d4, d5, d6, d7, d8, d9, d10, d11⟩ := show W0.cell? ⟨w.heap.size, 0, none⟩ = some (.int .i64 r.id) ∧ W0.cell? ⟨w.heap.size, 1, none⟩ = some (.int .u32 r.src.a) ∧ W0.cell? ⟨w.heap.size, 2, none⟩ = some (.int .i64 r.src.n) ∧ W0.cell? ⟨w.heap.size, 3, none⟩ = some (.int .u32 r.dst.a) ∧ W0.cell? ⟨w.heap.size, 4, none⟩ = some (.int .i64 r.dst.n) ∧ W0.cell? ⟨w.heap.size, 5, none⟩ = some (.int .u16 r.sp.lo) ∧ W0.cell? ⟨w.heap.size, 6, none⟩ = some (.int .u16 r.sp.hi) ∧ W0.cell? ⟨w.heap.size, 7, none⟩ = some (.int .u16 r.dp.lo) ∧ W0.cell? ⟨w.heap.size, 8, none⟩ = some (.int .u16 r.dp.hi) ∧ W0.cell? ⟨w.heap.size, 9, none⟩ = some (.int .u8 r.pr.v) ∧ W0.cell? ⟨w.heap.size, 10, none⟩ = some (.int .u8 r.pr.c) ∧ W0.cell? ⟨w.heap.size, 11, none⟩ = some (.int .i64 r.act) from ⟨hkW.cell (i := 0) rfl, hkW.cell (i := 1) rfl, hkW.cell (i := 2) rfl, hkW.cell (i := 3) rfl, hkW.cell (i := 4) rfl, hkW.cell (i := 5) rfl, hkW.cell (i := 6) rfl, hkW.cell (i := 7) rfl, hkW.cell (i := 8) rfl, hkW.cell (i := 9) rfl, hkW.cell (i := 10) rfl, hkW.cell (i := 11) rfl⟩
  have hd0 : Below W0.heap.size W0 W0.drew := (Below.refl _ _).drew
  have HK := Sd.mk (takes_any (.pointer (some ⟨B, 0, none⟩)) rs A cap r hw (by omega) W0.drew ((hO.ruls.below hbW).below hd0))
  clear hbW hkW hd0
  have h1 : takesI rs r = 0 := by
    unfold insI at hn
    by_cases h1 : takesI rs r ≠ 0
    · rw [if_pos h1] at hn; omega
    · omega
  have h2 : btw p 0 rs.length = true := by unfold btw; simp; omega
  have h3 : (rs.length : Int) < c.max := by
    unfold insI at hn
    rw [if_neg (by omega), if_neg (by simp [h2])] at hn
    by_cases h3 : c.max ≤ rs.length
    · rw [if_pos h3] at hn; omega
    · omega
  rw [h1] at HK
  have J := fun W => in_any p 0 rs.length W
  rw [h2] at J
  have HJ := Sd.mk J
  have c7 := hT.cell (i := 7) rfl
  have cl := hT.lt
  have HT := Sd.mk hT
  have HO := Sd.mk hO
  clear hT hO hn h1 h2 J
  go_enter Try.func31, Try.ntmps31
  go_wp2_with fail
  try rw [hW0]
  clear hW0
  refine wp_region_still_tail 6 (by kernel_rfl) (by kernel_rfl) ?_
  change wpStill _ _ W0.drew _ _ _
  simp only [List.take_succ_cons, List.take_zero, List.drop_succ_cons, List.drop_zero]
  repeat still_step
  refine wpStill_nil ?_
  change wpList _ _ _ _ _ W0.drew
  go_wp2_with fail
  refine HK.out.mono ?_
  rintro e w1 ⟨rfl, hb⟩
  have hT1 := HT.out.below (beyond HBW.out.drew hb) HT.out.lt
  have hO1 := ownR_below HO.out (beyond HBW.out.drew hb) (Nat.le_refl _)
  have c7 := hT1.cell (i := 7) rfl
  have c0 := hT1.cell (i := 0) rfl
  have hb1 := beyond HBW.out.drew hb
  have HB := Sd.mk hb1
  have HL := Sd.mk (tabLay_any B c rs base _ w1 p r hp hl hT1 hO1 hB (Nat.le_trans hbase hb1.size))
  have k := HKW.out.drew.below hb HKW.out.lt
  obtain ⟨d0, d1, d2, d3, d4, d5, d6, d7, d8, d9, d10, d11⟩ := show w1.cell? ⟨w.heap.size, 0, none⟩ = some (.int .i64 r.id) ∧ w1.cell? ⟨w.heap.size, 1, none⟩ = some (.int .u32 r.src.a) ∧ w1.cell? ⟨w.heap.size, 2, none⟩ = some (.int .i64 r.src.n) ∧ w1.cell? ⟨w.heap.size, 3, none⟩ = some (.int .u32 r.dst.a) ∧ w1.cell? ⟨w.heap.size, 4, none⟩ = some (.int .i64 r.dst.n) ∧ w1.cell? ⟨w.heap.size, 5, none⟩ = some (.int .u16 r.sp.lo) ∧ w1.cell? ⟨w.heap.size, 6, none⟩ = some (.int .u16 r.sp.hi) ∧ w1.cell? ⟨w.heap.size, 7, none⟩ = some (.int .u16 r.dp.lo) ∧ w1.cell? ⟨w.heap.size, 8, none⟩ = some (.int .u16 r.dp.hi) ∧ w1.cell? ⟨w.heap.size, 9, none⟩ = some (.int .u8 r.pr.v) ∧ w1.cell? ⟨w.heap.size, 10, none⟩ = some (.int .u8 r.pr.c) ∧ w1.cell? ⟨w.heap.size, 11, none⟩ = some (.int .i64 r.act) from ⟨k.cell (i := 0) rfl, k.cell (i := 1) rfl, k.cell (i := 2) rfl, k.cell (i := 3) rfl, k.cell (i := 4) rfl, k.cell (i := 5) rfl, k.cell (i := 6) rfl, k.cell (i := 7) rfl, k.cell (i := 8) rfl, k.cell (i := 9) rfl, k.cell (i := 10) rfl, k.cell (i := 11) rfl⟩
  clear hb hT1 hO1 k hb1
  go_wp2_with fail
  refine (HJ.out _).mono ?_
  rintro e w2 ⟨rfl, rfl⟩
  go_wp2_with fail
  refine HL.out.mono ?_
  rintro e w3 ⟨v', rfl, hx⟩
  have HX : Sd (TabOut w B base c (.slice A rs.length cap) (rs.take p ++ r :: rs.drop p) w3) := ⟨TabOut.before ⟨v', hx⟩ HB.out⟩
  clear hx
  go_wp2
  go_ret
  exact ⟨rfl, HX.out⟩
end Go.Proofs.Ytljliopmphaoeaa
