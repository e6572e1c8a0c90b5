/- Set of package table. -/
import Derived.Test.YtljliopmphaoeaaT6
namespace Go.Proofs.Ytljliopmphaoeaa
open Go Go.RowKit Go.Proofs.Ytljliopmphaoeaa.Q

/-- what is said of the i-th rule of a list that is set -/
def stepI (c : Cfg) (ls : List Rul) (i : Nat) : Int := match ls[i]? with
  | none => 0
  | some r => if takesI (ls.take i) r ≠ 0 then takesI (ls.take i) r else if c.max ≤ i then 113 else 0
def setI (c : Cfg) (ls : List Rul) : Int := match (List.range ls.length).find? (fun i => stepI c ls i != 0) with | some i => stepI c ls i | none => 0
theorem setI_zero (c : Cfg) (ls : List Rul) (h : ∀ j, j < ls.length → stepI c ls j = 0) : setI c ls = 0 := by
  unfold setI
  have : (List.range ls.length).find? (fun i => stepI c ls i != 0) = none := by
    rw [List.find?_eq_none]
    intro x hx
    simp [h x (List.mem_range.1 hx)]
  rw [this]
theorem setI_at (c : Cfg) (ls : List Rul) (k : Nat) (hk : k < ls.length) (h : ∀ j, j < k → stepI c ls j = 0) (hs : stepI c ls k ≠ 0) : setI c ls = stepI c ls k := by
  unfold setI
  have : (List.range ls.length).find? (fun i => stepI c ls i != 0) = some k := by
    rw [List.find?_range_eq_some]
    exact ⟨by simp [hs], List.mem_range.2 hk, fun j hj => by simp [h j hj]⟩
  rw [this]
theorem setI_all (c : Cfg) (ls : List Rul) (h : setI c ls = 0) (j : Nat) (hj : j < ls.length) : stepI c ls j = 0 := by
  unfold setI at h
  cases hf : (List.range ls.length).find? (fun i => stepI c ls i != 0) with
  | none =>
    have := List.find?_eq_none.1 hf j (List.mem_range.2 hj)
    simpa using this
  | some i =>
    rw [hf] at h
    have := List.find?_some hf
    simp [h] at this
theorem takesAt (t : Value) (ls : List Rul) (A : Option Addr) (cap k : Nat) (hk : k < ls.length) (hw : ∀ r ∈ ls, r.Wf) (hl : ls.length ≤ 100000) (W : World) (hR : RulsAt W A ls) :
    Calls Try.prog 54 #[t, .slice A k cap, .agg #[.int .i64 ls[k].id, .int .u32 ls[k].src.a, .int .i64 ls[k].src.n, .int .u32 ls[k].dst.a, .int .i64 ls[k].dst.n, .int .u16 ls[k].sp.lo, .int .u16 ls[k].sp.hi, .int .u16 ls[k].dp.lo, .int .u16 ls[k].dp.hi, .int .u8 ls[k].pr.v, .int .u8 ls[k].pr.c, .int .i64 ls[k].act]] W fun e w' => e = .returned (.int .i64 (takesI (ls.take k) ls[k])) ∧ Below W.heap.size W w' := by
  have e : (ls.take k).length = k := by rw [List.length_take]; omega
  have := takes_any t (ls.take k) A cap ls[k] (hw _ (List.getElem_mem _)) (by omega) W (hR.take k)
  rwa [e] at this
theorem stepI_at (c : Cfg) (ls : List Rul) (k : Nat) (hk : k < ls.length) : stepI c ls k = if takesI (ls.take k) ls[k] ≠ 0 then takesI (ls.take k) ls[k] else if c.max ≤ k then 113 else 0 := by
  unfold stepI
  rw [List.getElem?_eq_getElem hk]
theorem RulsAt.only {W W' : World} {S : Nat → Prop} {A : Option Addr} {rs : List Rul} (h : RulsAt W A rs) (ho : Only W W' S) (hS : ∀ a, A = some a → ¬ S a.block) : RulsAt W' A rs :=
  ⟨fun k hk => by
    obtain ⟨g, o, h1, h2, h3⟩ := h.at' k hk
    refine ⟨g, o, h1, Nat.lt_of_lt_of_le h2 ho.size, fun i u hu => ?_⟩
    rw [World.cell?_of_block (a := ⟨g, o + k * 12 + i, none⟩) (ho.block g h2 (hS _ h1))]
    exact h3 i u hu⟩
theorem RulsAt.flat {W : World} {A : Option Addr} {rs : List Rul} (h : RulsAt W A rs) (hne : 0 < rs.length) : ∃ a, A = some a ∧ ∀ j v, (rulsC rs)[j]? = some v → W.cell? (a.add j) = some v := by
  obtain ⟨g, o, h1, h2, _⟩ := h.at' 0 hne
  refine ⟨_, h1, fun j v hj => ?_⟩
  have hjl : j < rs.length * 12 := by have := (List.getElem?_eq_some_iff.1 hj).1; rwa [rulsC_len] at this
  have hk : j / 12 < rs.length := by omega
  obtain ⟨g', o', h1', _, h3⟩ := h.at' (j / 12) hk
  rw [h1] at h1'
  injection h1' with h1'
  injection h1' with e1 e2
  subst e1 e2
  have hi : j % 12 < (rulC rs[j / 12]).length := by rw [rulC_len]; omega
  have hu : (rulC rs[j / 12])[j % 12]? = some (rulC rs[j / 12])[j % 12] := List.getElem?_eq_getElem hi
  have hg := rulsC_get rs (j / 12) hk (j % 12) _ hu
  rw [show j / 12 * 12 + j % 12 = j from by omega, hj] at hg
  have hc := h3 (j % 12) v (by rw [hg]; simp [rulC])
  have e : (⟨g, o, none⟩ : Addr).add j = ⟨g, o + j / 12 * 12 + j % 12, none⟩ := by
    have : o + j = o + j / 12 * 12 + j % 12 := by omega
    rw [← this]
    unfold Addr.add; split <;> simp_all
  rw [e]
  exact hc
theorem mk_rules (n : Nat) (hn : n ≤ 100000) : ∃ Z : Array Value, Z.size = n * 12 ∧ ∀ W : World, (Instr.makeSlice 46 (.int .i64 (n : Int)) (.int .i64 (n : Int))).run Try.prog W = .ok (.slice (some ⟨W.heap.size, 0, none⟩) n n) (W.alloc (.cells Z 60)) := by
  obtain ⟨i0, hi, hz0, hz1, hz2⟩ := info_parts infoRule
  refine ⟨madeCells (Value.agg #[.int .i64 0, .int .u32 0, .int .i64 0, .int .u32 0, .int .i64 0, .int .u16 0, .int .u16 0, .int .u16 0, .int .u16 0, .int .u8 0, .int .u8 0, .int .i64 0]).cells (n * 12), by rw [size_madeCells], fun W => ?_⟩
  have := run_make (P := Try.prog) W 46 60 i0 _ Try.underlying46 hi hz0 .i64 .i64 (n : Int) (n : Int) (by omega) (by omega) (by rw [hz2]; omega) (by omega)
  rw [this, hz1]
  simp
set_option maxHeartbeats 2000000 in
set_option maxRecDepth 100000 in
theorem tabSet_any (B base : Nat) (c : Cfg) (v : Value) (ls : List Rul) (A : Option Addr) (cap : Nat) (w : World) (hw : ∀ r ∈ ls, r.Wf) (hl : ls.length ≤ 100000) (hcap : ls.length ≤ cap) (hT : TabAt w B c v) (hR : RulsAt w A ls) (hA : 0 < ls.length → ∀ a, A = some a → a.block ≠ B) (hbase : base ≤ w.heap.size) :
    Calls Try.prog 30 #[.pointer (some ⟨B, 0, none⟩), .slice A ls.length cap] w fun e w' => e = .returned (.int .i64 (setI c ls)) ∧ (setI c ls ≠ 0 → Below w.heap.size w w') ∧ (setI c ls = 0 → TabOut w B base c v ls w') := by
  have HT := Sd.mk hT
  have HR := Sd.mk hR
  have HAB := Sd.mk hA
  have HW := Sd.mk hw
  clear hT hR hw hA
  go_enter Try.func30, Try.ntmps30
  go_wp2
  go_loopw [12] (fun iv wr => ∃ k : Nat, k ≤ ls.length ∧ iv = .int .i64 k ∧ Sd ((∀ j, j < k → stepI c ls j = 0) ∧ Below w.heap.size w wr)) (fun iv _ => ls.length - (intOf iv).toNat)
  case atStart => exact ⟨0, by omega, rfl, ⟨fun j hj => by omega, Below.refl _ _⟩⟩
  case round =>
    obtain ⟨k, hk, rfl, HI⟩ := hrel
    by_cases hlt : k < ls.length
    · have hTr := HT.out.below HI.out.2 HT.out.lt
      have hRr := HR.out.below HI.out.2
      have c7 := hTr.cell (i := 7) rfl
      have c0 := hTr.cell (i := 0) rfl
      obtain ⟨g, o, rfl, hg, r0, r1, r2, r3, r4, r5, r6, r7, r8, r9, r10, r11⟩ := hRr.cells k hlt
      obtain ⟨W0, hW0⟩ : ∃ W0, wr.alloc (.cells #[.int .i64 ls[k].id, .int .u32 ls[k].src.a, .int .i64 ls[k].src.n, .int .u32 ls[k].dst.a, .int .i64 ls[k].dst.n, .int .u16 ls[k].sp.lo, .int .u16 ls[k].sp.hi, .int .u16 ls[k].dp.lo, .int .u16 ls[k].dp.hi, .int .u8 ls[k].pr.v, .int .u8 ls[k].pr.c, .int .i64 ls[k].act] 60) = W0 := ⟨_, rfl⟩
      have hbW : Below wr.heap.size wr W0 := by rw [← hW0]; exact below_alloc (Below.refl _ _) _
      have hkW : Blk W0 wr.heap.size #[.int .i64 ls[k].id, .int .u32 ls[k].src.a, .int .i64 ls[k].src.n, .int .u32 ls[k].dst.a, .int .i64 ls[k].dst.n, .int .u16 ls[k].sp.lo, .int .u16 ls[k].sp.hi, .int .u16 ls[k].dp.lo, .int .u16 ls[k].dp.hi, .int .u8 ls[k].pr.v, .int .u8 ls[k].pr.c, .int .i64 ls[k].act] 60 := by rw [← hW0]; exact Blk.new _ _ _
      obtain ⟨d0, d1, d2, d3, d4, d5, d6, d7, d8, d9, d10, d11⟩ := show W0.cell? ⟨wr.heap.size, 0, none⟩ = some (.int .i64 ls[k].id) ∧ W0.cell? ⟨wr.heap.size, 1, none⟩ = some (.int .u32 ls[k].src.a) ∧ W0.cell? ⟨wr.heap.size, 2, none⟩ = some (.int .i64 ls[k].src.n) ∧ W0.cell? ⟨wr.heap.size, 3, none⟩ = some (.int .u32 ls[k].dst.a) ∧ W0.cell? ⟨wr.heap.size, 4, none⟩ = some (.int .i64 ls[k].dst.n) ∧ W0.cell? ⟨wr.heap.size, 5, none⟩ = some (.int .u16 ls[k].sp.lo) ∧ W0.cell? ⟨wr.heap.size, 6, none⟩ = some (.int .u16 ls[k].sp.hi) ∧ W0.cell? ⟨wr.heap.size, 7, none⟩ = some (.int .u16 ls[k].dp.lo) ∧ W0.cell? ⟨wr.heap.size, 8, none⟩ = some (.int .u16 ls[k].dp.hi) ∧ W0.cell? ⟨wr.heap.size, 9, none⟩ = some (.int .u8 ls[k].pr.v) ∧ W0.cell? ⟨wr.heap.size, 10, none⟩ = some (.int .u8 ls[k].pr.c) ∧ W0.cell? ⟨wr.heap.size, 11, none⟩ = some (.int .i64 ls[k].act) from ⟨hkW.cell (i := 0) rfl, hkW.cell (i := 1) rfl, hkW.cell (i := 2) rfl, hkW.cell (i := 3) rfl, hkW.cell (i := 4) rfl, hkW.cell (i := 5) rfl, hkW.cell (i := 6) rfl, hkW.cell (i := 7) rfl, hkW.cell (i := 8) rfl, hkW.cell (i := 9) rfl, hkW.cell (i := 10) rfl, hkW.cell (i := 11) rfl⟩
      have HK := Sd.mk (takesAt (.pointer (some ⟨B, 0, none⟩)) ls (some ⟨g, o, none⟩) cap k hlt HW.out hl W0.drew (hRr.below hbW.drew))
      have HB0 := Sd.mk (beyond HI.out.2 hbW.drew)
      clear hTr hRr hbW hkW
      go_wp2_with fail
      try rw [hW0]
      clear hW0
      refine wp_region_still_tail 5 (by kernel_rfl) (by kernel_rfl) ?_
      change wpStill _ _ W0.drew _ _ _
      simp only [List.take_succ_cons, List.take_zero, List.drop_succ_cons, List.drop_zero]
      repeat still_step
      refine wpStill_step (fun K hK => ?_)
      go_simp
      rw [if_pos (show k ≤ cap by omega)]
      refine ⟨rfl, hK _ ?_⟩
      clear hK K
      repeat still_step
      refine wpStill_nil ?_
      change wpList _ _ _ _ _ W0.drew
      have hs := stepI_at c ls k hlt
      by_cases h1 : takesI (ls.take k) ls[k] ≠ 0
      · rw [if_pos h1] at hs
        have HQ := Sd.mk (And.intro ((setI_at c ls k hlt HI.out.1 (by rw [hs]; exact h1)).trans hs) h1)
        have ht : (takesI (ls.take k) ls[k] != 0) = true := by simp [h1]
        clear h1 hs
        go_wp2_with fail
        refine HK.out.mono ?_
        rintro e w1 ⟨rfl, hb⟩
        have HB := Sd.mk (beyond HB0.out hb)
        clear hb
        go_wp2
        go_ret
        exact ⟨ret_int HQ.out.1.symm, fun _ => HB.out, fun h => absurd (HQ.out.1.symm.trans h) HQ.out.2⟩
      · have h1 : takesI (ls.take k) ls[k] = 0 := by omega
        rw [if_neg (by omega)] at hs
        rw [h1] at HK
        clear h1
        by_cases h2 : c.max ≤ k
        · rw [if_pos h2] at hs
          have HQ := Sd.mk ((setI_at c ls k hlt HI.out.1 (by rw [hs]; omega)).trans hs)
          clear hs
          go_wp2_with fail
          refine HK.out.mono ?_
          rintro e w1 ⟨rfl, hb⟩
          have hb1 := beyond HB0.out hb
          have hT1 := HT.out.below hb1 HT.out.lt
          have c0 := hT1.cell (i := 0) rfl
          have HB := Sd.mk hb1
          clear hb hb1 hT1
          go_wp2
          go_ret
          exact ⟨ret_int HQ.out.symm, fun _ => HB.out, fun h => absurd (HQ.out.symm.trans h) (by omega)⟩
        · rw [if_neg h2] at hs
          have HS := Sd.mk hs
          clear hs
          go_wp2_with fail
          refine HK.out.mono ?_
          rintro e w1 ⟨rfl, hb⟩
          have hb1 := beyond HB0.out hb
          have hT1 := HT.out.below hb1 HT.out.lt
          have c0 := hT1.cell (i := 0) rfl
          have HB := Sd.mk hb1
          clear hb hb1 hT1
          go_wp2
          go_roundw
          case rel => exact ⟨k + 1, by omega, by go_num, ⟨fun j hj => by
            by_cases e : j = k
            · rw [e]; exact HS.out
            · exact HI.out.1 j (by omega), HB.out⟩⟩
          case measure => simp [intOf]; omega
    · have HQ := Sd.mk (setI_zero c ls (fun j hj => HI.out.1 j (by omega)))
      have hTr := HT.out.below HI.out.2 HT.out.lt
      have c7 := hTr.cell (i := 7) rfl
      have cl := hTr.lt
      have cf := hTr.frozen
      clear hTr
      obtain ⟨Z, hZl, hmk⟩ := mk_rules ls.length hl
      have HZL := Sd.mk hZl
      clear hZl
      go_upto_region 13 with fail
      obtain ⟨W2, hW2⟩ : ∃ W2, (wr.setCell ⟨B, 7, none⟩ (.slice (some ⟨wr.heap.size, 0, none⟩) ls.length ls.length)).alloc (.cells Z 60) = W2 := ⟨_, rfl⟩
      have hB2 : TabAt W2 B c (.slice (some ⟨wr.heap.size, 0, none⟩) ls.length ls.length) := by
        rw [← hW2]; exact ((HT.out.below HI.out.2 HT.out.lt).set 7 _).alloc _
      have hZ2 : Blk W2 wr.heap.size Z 60 := by
        have := Blk.new (wr.setCell ⟨B, 7, none⟩ (.slice (some ⟨wr.heap.size, 0, none⟩) ls.length ls.length)) Z 60
        rw [hW2] at this
        simpa using this
      have hO2 : Only w W2 (fun k => k = B) := by
        rw [← hW2]; exact ((below_only HI.out.2 (fun k => k = B)).setCell ⟨B, 7, none⟩ _ (fun _ => rfl)).alloc _
      have HB2 := Sd.mk hB2
      have HZ2 := Sd.mk hZ2
      have HO2 := Sd.mk hO2
      have hBs : B < w.heap.size := HT.out.lt
      have hsz := HI.out.2.size
      rw [hW2]
      clear c7 cl cf hmk hW2 hZ2 hO2
      have c7 := hB2.cell (i := 7) rfl
      clear hB2
      generalize wr.heap.size = g at HB2 HZ2 hsz c7 ⊢
      go_wp2_with (with_reducible refine wpList_copy_wide rfl (.tmp 43) (.tmp 44) 46 46 rfl 12 60 Try.underlying46 sizeRule (some ⟨g, 0, none⟩) A ls.length ls.length ls.length cap rfl rfl g 0 Z.toList 60 ?c1 (rulsC ls) ?c2 ?c3 ?c4 (ruls_one ls) ?c5)
      case c1 => simpa [Blk] using HZ2.out
      case c2 => rw [rulsC_len, show Nat.min ls.length ls.length = ls.length from Nat.min_self _]
      case c3 =>
        intro hne
        obtain ⟨a, hAa, hc⟩ := (HR.out.only HO2.out (fun a e => HAB.out hne a e)).flat hne
        exact ⟨a, hAa, hc⟩
      case c4 => rw [rulsC_len]; have e : Z.toList.length = ls.length * 12 := Array.length_toList.trans HZL.out; omega
      case c5 =>
        intro w1 hg1 hw1
        rw [splice_whole _ _ (by rw [rulsC_len]; exact Array.length_toList.trans HZL.out)] at hg1 hw1
        have ho1 : Only W2 w1 (fun k => k = g) := by
          rcases hw1 with rfl | rfl
          · exact Only.refl _ _
          · exact ⟨rfl, rfl, rfl, by simp, fun k _ hne => setRow_other _ _ _ _ hne⟩
        have HX : Sd (TabOut w B base c v ls w1) := ⟨_, HB2.out.only ho1 (by omega), ownR_of rfl (by omega) hg1 (Nat.le_refl _) (by unfold maxLen; omega) (rulsC_len ls) (List.take_of_length_le (by rw [rulsC_len]; exact Nat.le_refl _)), .inr ⟨g, hsz, rfl⟩,
          HO2.out.trans ho1 (fun b hb e => by omega) |>.mono (fun k _ h => .inl h)⟩
        clear hg1 hw1 ho1
        go_wp2
        go_ret
        exact ⟨ret_int HQ.out.symm, fun h => absurd HQ.out h, fun _ => HX.out⟩
end Go.Proofs.Ytljliopmphaoeaa
