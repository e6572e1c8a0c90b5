/- The reference's list: Match. -/
import Derived.Test.YtljliopmphaoeaaA2
import Derived.Test.YtljliopmphaoeaaMR
namespace Go.Proofs.Ytljliopmphaoeaa
open Go Go.RowKit Go.Proofs.Ytljliopmphaoeaa.Q
theorem match_hit (rs : List Rul) (d : Int) (h : Hdr) (k : Nat) (hk : k < rs.length) (hb : ∀ j (hj : j < rs.length), j < k → rs[j].hit h = false) (hit : rs[k].hit h = true) : matchC rs d h = #[.bool true, .int .i64 rs[k].id, .int .i64 rs[k].act] := by
  have h1 : rs.find? (fun r => r.hit h) = some rs[k] := by
    rw [List.find?_eq_some_iff_getElem]
    exact ⟨hit, k, hk, rfl, fun j hj => by simp [hb j (by omega) hj]⟩
  unfold matchC
  rw [h1]
theorem match_none (rs : List Rul) (d : Int) (h : Hdr) (hb : ∀ j (hj : j < rs.length), rs[j].hit h = false) : matchC rs d h = #[.bool false, .int .i64 0, .int .i64 d] := by
  have h1 : rs.find? (fun r => r.hit h) = none := by
    rw [List.find?_eq_none]
    intro x hx
    obtain ⟨j, hj, rfl⟩ := List.mem_iff_getElem.1 hx
    simp [hb j hj]
  unfold matchC
  rw [h1]
/-- the reference, on its way through a list -/
structure RefI (w : World) (h : Hdr) (rs : List Rul) (k : Nat) (W : World) : Prop where
  below : Below w.heap.size w W
  hdr : Blk W w.heap.size #[.int .u32 h.src, .int .u32 h.dst, .int .u16 h.sp, .int .u16 h.dp, .int .u8 h.pr] 28
  ver : Blk W (w.heap.size + 1) #[.bool false, .int .i64 0, .int .i64 0] 36
  no : ∀ j (hj : j < rs.length), j < k → rs[j].hit h = false
theorem RefI.more {w W W' : World} {h : Hdr} {rs : List Rul} {k : Nat} (i : RefI w h rs k W) (hb : Below W.heap.size W W') : RefI w h rs k W' := ⟨beyond i.below hb, i.hdr.below hb i.hdr.lt, i.ver.below hb i.ver.lt, i.no⟩
theorem fill3 {W V' : World} {P : Nat} {T : TypeId} {a0 a1 a2 p0 p1 p2 : Value} (h1 : Blk W P #[a0, a1, a2] T) (hV : (((W.setCell ⟨P, 0, none⟩ p0).setCell ⟨P, 1, none⟩ p1).setCell ⟨P, 2, none⟩ p2) = V') : Blk V' P #[p0, p1, p2] T ∧ Only W V' (fun k => k = P) := by
  subst hV
  have k1 := ((h1.set 0 p0).set 1 p1).set 2 p2
  simp only [List.setIfInBounds_toArray, List.set_cons_zero, List.set_cons_succ] at k1
  exact ⟨k1, (((Only.refl W (fun k => k = P)).setCell ⟨P, 0, none⟩ p0 (fun _ => rfl)).setCell ⟨P, 1, none⟩ p1 (fun _ => rfl)).setCell ⟨P, 2, none⟩ p2 (fun _ => rfl)⟩
set_option maxHeartbeats 2000000 in
set_option maxRecDepth 100000 in
theorem refMatch_any (rs : List Rul) (A : Option Addr) (cap : Nat) (d : Int) (h : Hdr) (hh : h.Wf) (hrs : ∀ r ∈ rs, r.Wf) (hl : rs.length ≤ 100000) (w : World) (hR : RulsAt w A rs) :
    Calls Try.prog 63 #[.slice A rs.length cap, .int .i64 d, .agg #[.int .u32 h.src, .int .u32 h.dst, .int .u16 h.sp, .int .u16 h.dp, .int .u8 h.pr]] w fun x w' => ∃ i : Int, x = .returned (.tuple #[.agg (matchC rs d h), .int .i64 i]) ∧ Below w.heap.size w w' := by
  have HR := Sd.mk hR
  have HRS := Sd.mk hrs
  have hI0 : RefI w h rs 0 ((w.alloc (.cells #[.int .u32 h.src, .int .u32 h.dst, .int .u16 h.sp, .int .u16 h.dp, .int .u8 h.pr] 28)).alloc (.cells #[.bool false, .int .i64 0, .int .i64 0] 36)) :=
    ⟨below_alloc (below_alloc (Below.refl _ _) _) _, (Blk.new w _ _).alloc _, blkN (X := w.alloc _) (N := w.heap.size + 1) (by simp) _ _, fun j _ hj => by omega⟩
  have HI0 := Sd.mk hI0
  clear hR hrs hI0
  go_enter Try.func63, Try.ntmps63
  go_wp2
  go_loopw [8] (fun iv wr => ∃ k : Nat, k ≤ rs.length ∧ iv = .int .i64 k ∧ Sd (RefI w h rs k wr)) (fun iv _ => rs.length - (intOf iv).toNat)
  case atStart => exact ⟨0, by omega, rfl, HI0⟩
  case round =>
    obtain ⟨k, hk, rfl, HI⟩ := hrel
    have HPV := Sd.mk HI.out.ver
    by_cases hlt : k < rs.length
    · obtain ⟨g, o, rfl, hg, r0, r1, r2, r3, r4, r5, r6, r7, r8, r9, r10, r11⟩ := (HR.out.below HI.out.below).cells k hlt
      have kh := HI.out.hdr
      obtain ⟨b0, b1, b2, b3, b4⟩ := show wr.cell? ⟨w.heap.size, 0, none⟩ = some (.int .u32 h.src) ∧ wr.cell? ⟨w.heap.size, 1, none⟩ = some (.int .u32 h.dst) ∧ wr.cell? ⟨w.heap.size, 2, none⟩ = some (.int .u16 h.sp) ∧ wr.cell? ⟨w.heap.size, 3, none⟩ = some (.int .u16 h.dp) ∧ wr.cell? ⟨w.heap.size, 4, none⟩ = some (.int .u8 h.pr) from ⟨kh.cell (i := 0) rfl, kh.cell (i := 1) rfl, kh.cell (i := 2) rfl, kh.cell (i := 3) rfl, kh.cell (i := 4) rfl⟩
      have hma := rMatch_any rs[k] (HRS.out _ (List.getElem_mem _)) h hh wr.drew
      clear kh
      cases hit : rs[k].hit h with
      | true =>
        rw [hit] at hma
        have HM := Sd.mk hma
        have HV := Sd.mk (match_hit rs d h k hlt HI.out.no hit)
        clear hma hit
        go_upto_region 4 with fail
        refine wp_region_still_tail 5 (by kernel_rfl) (by kernel_rfl) ?_
        change wpStill _ _ wr.drew _ _ _
        simp only [List.take_succ_cons, List.take_zero, List.drop_succ_cons, List.drop_zero]
        repeat still_step
        refine wpStill_nil ?_
        change wpList _ _ _ _ _ wr.drew
        go_wp2_with fail
        refine HM.out.mono ?_
        rintro x1 w1 ⟨rfl, hb0⟩
        have hb : Below wr.heap.size wr w1 := ((Below.refl wr.heap.size wr).drew).trans hb0
        have hI1 := HI.out.more hb
        have e0 := (hb.cell (World.block_lt_of_cell? wr _ r0)).trans r0
        have e11 := (hb.cell (World.block_lt_of_cell? wr _ r11)).trans r11
        have p0 := hI1.ver.at
        have pf := hI1.ver.frozen
        have pl := hI1.ver.lt
        have HP := Sd.mk (And.intro hI1.ver hI1.below)
        clear hb hb0 hI1 r0 r1 r2 r3 r4 r5 r6 r7 r8 r9 r10 r11 b0 b1 b2 b3 b4
        go_upto_region 5 with fail
        go_region
        clear p0 pf pl e0 e11
        obtain ⟨V', hV⟩ : ∃ V', (((w1.setCell ⟨w.heap.size + 1, 0, none⟩ (.bool true)).setCell ⟨w.heap.size + 1, 1, none⟩ (.int .i64 rs[k].id)).setCell ⟨w.heap.size + 1, 2, none⟩ (.int .i64 rs[k].act)) = V' := ⟨_, rfl⟩
        obtain ⟨k1, ho⟩ := fill3 HP.out.1 hV
        have HO : Sd (Below w.heap.size w V'.drew) := ⟨(HP.out.2.trans (ho.below _ HP.out.2.size (fun j hj => by omega))).drew⟩
        rw [hV]
        have k2 := k1.drew
        have x0 := k2.cell (i := 0) rfl
        have x1 := k2.cell (i := 1) rfl
        have x2 := k2.cell (i := 2) rfl
        clear k1 k2 ho hV
        go_wp2
        refine bodyPost_ret (v := .tuple #[.agg #[.bool true, .int .i64 rs[k].id, .int .i64 rs[k].act], .int .i64 k]) (by simp [results, Try.results63, go_sem, *]) rfl ⟨(k : Int), by rw [HV.out], HO.out⟩
      | false =>
        rw [hit] at hma
        have HM := Sd.mk hma
        have hno : ∀ j (hj : j < rs.length), j < k + 1 → rs[j].hit h = false := fun j hj hjk => by
          by_cases ej : j = k
          · subst ej; exact hit
          · exact HI.out.no j hj (by omega)
        have HNO := Sd.mk hno
        clear hma hit hno
        go_upto_region 4 with fail
        refine wp_region_still_tail 5 (by kernel_rfl) (by kernel_rfl) ?_
        change wpStill _ _ wr.drew _ _ _
        simp only [List.take_succ_cons, List.take_zero, List.drop_succ_cons, List.drop_zero]
        repeat still_step
        refine wpStill_nil ?_
        change wpList _ _ _ _ _ wr.drew
        go_wp2_with fail
        refine HM.out.mono ?_
        rintro x1 w1 ⟨rfl, hb0⟩
        have hb : Below wr.heap.size wr w1 := ((Below.refl wr.heap.size wr).drew).trans hb0
        have HN : Sd (RefI w h rs (k + 1) w1) := ⟨by
          have := HI.out.more hb
          exact ⟨this.below, this.hdr, this.ver, HNO.out⟩⟩
        clear hb hb0 r0 r1 r2 r3 r4 r5 r6 r7 r8 r9 r10 r11 b0 b1 b2 b3 b4
        go_wp2_with fail
        go_roundw
        case rel => exact ⟨k + 1, by omega, by go_num, HN⟩
        case measure => simp [intOf]; omega
    · have HV := Sd.mk (match_none rs d h (fun j hj => HI.out.no j hj (by omega)))
      have p0 := HI.out.ver.at
      have pf := HI.out.ver.frozen
      have pl := HI.out.ver.lt
      obtain ⟨V', hV⟩ : ∃ V', (((wr.setCell ⟨w.heap.size + 1, 0, none⟩ (.bool false)).setCell ⟨w.heap.size + 1, 1, none⟩ (.int .i64 0)).setCell ⟨w.heap.size + 1, 2, none⟩ (.int .i64 d)) = V' := ⟨_, rfl⟩
      obtain ⟨k1, ho⟩ := fill3 HPV.out hV
      have HO : Sd (Below w.heap.size w V') := ⟨HI.out.below.trans (ho.below _ HI.out.below.size (fun j hj => by omega))⟩
      have HVV := Sd.mk hV
      have x0 := k1.cell (i := 0) rfl
      have x1 := k1.cell (i := 1) rfl
      have x2 := k1.cell (i := 2) rfl
      clear k1 ho hV
      go_wp2_with fail
      try rw [HVV.out]
      refine bodyPost_ret (v := .tuple #[.agg #[.bool false, .int .i64 0, .int .i64 d], .int .i64 (-1)]) (by simp [results, Try.results63, go_sem, *]) rfl ⟨-1, by rw [HV.out], HO.out⟩
end Go.Proofs.Ytljliopmphaoeaa
