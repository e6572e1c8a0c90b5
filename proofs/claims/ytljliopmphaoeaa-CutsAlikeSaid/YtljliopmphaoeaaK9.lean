/- Play. -/
import Derived.Test.YtljliopmphaoeaaMK
import Derived.Deep.CutBlock
namespace Go.Proofs.Ytljliopmphaoeaa
open Go Go.RowKit Go.Proofs.Ytljliopmphaoeaa.Q
/-- the loop's invariant -/
def PlayJ (P : World → (Nat → Prop) → List Rul → Prop) (wB : World) (B : Nat) (c : Cfg) (v : Value) (W : World) : Prop := ∃ N rs A cap, v = .slice A rs.length cap ∧ PlayE P wB B c N rs W ∧ PlayL N rs A cap W
def SetS (M : World) (B Bo : Nat) (c : Cfg) (v : OpV) (W : World) : Prop := Below M.heap.size M W ∧ W.cell? ⟨B, 0, none⟩ = some (.func (.func 33) #[] #[]) ∧ W.cell? ⟨B, 1, none⟩ = some (.func (.func 34) #[] #[]) ∧ W.cell? ⟨B, 2, none⟩ = some (.int .i64 0) ∧ W.cell? ⟨B, 3, none⟩ = some (.func (.func 13) #[] #[]) ∧ W.cell? ⟨B + 1, 0, none⟩ = some (.int .i64 c.max) ∧ W.cell? ⟨B + 1, 1, none⟩ = some (.int .i64 c.dflt) ∧ W.cell? ⟨B + 1, 2, none⟩ = some (.int .i64 c.prune) ∧ W.cell? ⟨B + 1, 3, none⟩ = some (.int .i64 c.grid) ∧ W.cell? ⟨B + 1, 4, none⟩ = some (.int .i64 c.tuple) ∧ W.cell? ⟨B + 1, 5, none⟩ = some (.int .i64 c.binth) ∧ W.cell? ⟨B + 1, 6, none⟩ = some (.int .i64 c.depth) ∧ W.cell? ⟨Bo, 20, none⟩ = some (.slice v.la v.list.length v.lcap)
set_option maxHeartbeats 8000000 in
set_option maxRecDepth 100000 in
theorem play_any {E : Nat} {c : Cfg} {P : World → (Nat → Prop) → List Rul → Prop} (K : EngK (.pointer (some ⟨E, 0, none⟩)) c P (fun _ => 0)) {wB w : World} (os : List OpV) (hs : List Hdr) (SA HA : Option Addr) (scap hcap : Nat) (hos : os.length ≤ 2000) (hhs : hs.length ≤ 2000) (hof : ∀ o ∈ os, o.Wf ∧ o.list.length ≤ 2000) (hhf : ∀ h ∈ hs, h.Wf)
    (hO : OpsAt wB SA os) (hH : HdrsAt wB HA hs) {N : Nat → Prop} (hP : P w N []) (hN : ∀ k, N k → wB.heap.size ≤ k) (hb : Below wB.heap.size wB w) :
    Calls Try.prog 22 #[.agg kindC, .iface 31 (.pointer (some ⟨E, 0, none⟩)), .agg #[.int .i64 c.max, .int .i64 c.dflt, .int .i64 c.prune, .int .i64 c.grid, .int .i64 c.tuple, .int .i64 c.binth, .int .i64 c.depth], .slice SA os.length scap, .slice HA hs.length hcap] w fun e w' => e = .returned (.bool true) ∧ Below wB.heap.size wB w' := by
  have HAS := Sd.mk (fun {w : World} {N : Nat → Prop} {rs : List Rul} (hP : P w N rs) (h : Hdr) (hh : h.Wf) (A : Option Addr) (cap : Nat) (hR : RulsAt w A rs) => asked_any K hP h hh A cap hR)
  unfold kindC at HAS ⊢
  obtain ⟨M, hM⟩ : ∃ M, (w.alloc (.cells #[.func (.func 33) #[] #[], .func (.func 34) #[] #[], .int .i64 0, .func (.func 13) #[] #[]] 70)).alloc (.cells #[.int .i64 c.max, .int .i64 c.dflt, .int .i64 c.prune, .int .i64 c.grid, .int .i64 c.tuple, .int .i64 c.binth, .int .i64 c.depth] 24) = M := ⟨_, rfl⟩
  have hbM : Below w.heap.size w M := by rw [← hM]; exact below_alloc (below_alloc (Below.refl _ _) _) _
  have hE : PlayE P wB w.heap.size c N [] M := ⟨beyond hb hbM, K.below hP hbM, fun k hk => ⟨hN k hk, by have := K.lt hP k hk; omega, by have := K.lt hP k hk; omega⟩, hb.size, by rw [← hM]; exact (Blk.new w _ _).alloc _, by rw [← hM]; exact blkN (by simp) _ _⟩
  have HJ : Sd (PlayJ P wB w.heap.size c (.slice none 0 0) M) := ⟨N, [], none, 0, rfl, hE, ⟨⟨fun k hk => absurd hk (by simp)⟩, by simp, fun _ => rfl, fun a ha => by cases ha⟩⟩
  have HK := Sd.mk K
  have HO := Sd.mk hO
  have HH := Sd.mk hH
  have HM := Sd.mk hM
  have HOF := Sd.mk hof
  have HHF := Sd.mk hhf
  clear hO hH hP hN hb hM hbM hE K hof hhf
  go_enter Try.func22, Try.ntmps22
  go_upto_region 1 with fail
  try rw [HM.out]
  clear HM
  generalize w.heap.size = B at HJ ⊢
  go_wp2
  go_loopw [11, 12] (fun s11 s12 wr => ∃ k : Nat, k ≤ os.length ∧ s12 = .int .i64 k ∧ Sd (PlayJ P wB B c s11 wr)) (fun _ s12 _ => os.length - (intOf s12).toNat)
  case atStart => exact ⟨0, by omega, rfl, HJ⟩
  case round =>
    obtain ⟨k, hk, rfl, HI⟩ := hrel
    by_cases hlt : k < os.length
    · obtain ⟨N', rs, A, cap, rfl, h1, h2⟩ := HI.out
      obtain ⟨g, o, rfl, hg, hc⟩ := (HO.out.below h1.below).at' k hlt
      obtain ⟨⟨hrw, hhw, hlw, hlc⟩, hl2⟩ := HOF.out _ (List.getElem_mem hlt)
      have HRU := Sd.mk ((HO.out.ruls k hlt).below h1.below)
      have HOB := Sd.mk (fun W (hW : Below wB.heap.size wB W) => (HO.out.ruls k hlt).below hW)
      generalize os[k] = v at hc hrw hhw hlw hlc hl2 HRU HOB
      have HC := Sd.mk hc
      have HE := Sd.mk h1
      have HL := Sd.mk h2
      have HV := Sd.mk (And.intro hrw (And.intro hhw (And.intro hlw (And.intro hlc hl2))))
      clear hc hg h1 h2 hrw hhw hlw hlc hl2
      go_upto_region 5 with fail
      go_wp2_with (first | (with_reducible refine load_op rfl (.tmp 27) rfl v g (o + k * 21) rfl HC.out ?_) | with_reducible refine store_op rfl (.tmp 13) (.tmp 28) rfl v wr.heap.size rfl rfl _ (Blk.new wr _ _) rfl ?s1)
      intro W1 hB1 hO1
      have hBel : Below wr.heap.size wr W1 := (below_alloc (Below.refl _ _) _).trans (hO1.below wr.heap.size (by simp) (fun k hk => by omega))
      have HNo : Sd (¬ N' wr.heap.size) := ⟨fun hn => by have := HK.out.lt HE.out.eng _ hn; omega⟩
      have HE1 := Sd.mk (HE.out.more HK.out hBel)
      have HL1 := Sd.mk (HL.out.more hBel)
      have HBo := Sd.mk hB1
      have HRO : Sd (∀ e m W, Calls Try.prog 36 #[.agg #[.func (.func 33) #[] #[], .func (.func 34) #[] #[], .int .i64 0, .func (.func 13) #[] #[]], .agg #[.int .i64 c.max, .int .i64 c.dflt, .int .i64 c.prune, .int .i64 c.grid, .int .i64 c.tuple, .int .i64 c.binth, .int .i64 c.depth], m, .int .i64 e] W fun x w' => x = .returned (.int .i64 e) ∧ Below W.heap.size W w') := ⟨fun e m W => by have := room_any c m e W; unfold kindC at this; exact this⟩
      have c0 : W1.cell? ⟨wr.heap.size, 0, none⟩ = some (.int .i64 v.kind) := hB1.cell (i := 0) rfl
      have HLB := Sd.mk hB1.lt
      have HBoB : Sd (wB.heap.size ≤ wr.heap.size) := ⟨HE.out.below.size⟩
      clear hB1 hO1 hBel HE HL HC
      generalize wr.heap.size = Bo at HNo HBo c0 HLB HBoB ⊢
      go_upto_block 2 with fail
      go_cut [14, 15, 16, 17] (fun s14 s15 s16 s17 W => ∃ m e, s14 = m ∧ s15 = .int .i64 e ∧ s16 = .int .i64 e ∧ Sd (SwI P wB B c rs A cap m e W))
      case first =>
        by_cases k1 : v.kind = 1
        · have ht : (v.kind == 1) = true := by simp [k1]
          clear k1 c0
          have kb := HBo.out
          have p1 : W1.cell? ⟨Bo, 1, none⟩ = some (.int .i64 v.place) := kb.cell (i := 1) rfl
          have r0 : W1.cell? ⟨Bo, 3, none⟩ = some (.int .i64 v.rule.id) := kb.cell (i := 3) rfl
          have r1 : W1.cell? ⟨Bo, 4, none⟩ = some (.int .u32 v.rule.src.a) := kb.cell (i := 4) rfl
          have r2 : W1.cell? ⟨Bo, 5, none⟩ = some (.int .i64 v.rule.src.n) := kb.cell (i := 5) rfl
          have r3 : W1.cell? ⟨Bo, 6, none⟩ = some (.int .u32 v.rule.dst.a) := kb.cell (i := 6) rfl
          have r4 : W1.cell? ⟨Bo, 7, none⟩ = some (.int .i64 v.rule.dst.n) := kb.cell (i := 7) rfl
          have r5 : W1.cell? ⟨Bo, 8, none⟩ = some (.int .u16 v.rule.sp.lo) := kb.cell (i := 8) rfl
          have r6 : W1.cell? ⟨Bo, 9, none⟩ = some (.int .u16 v.rule.sp.hi) := kb.cell (i := 9) rfl
          have r7 : W1.cell? ⟨Bo, 10, none⟩ = some (.int .u16 v.rule.dp.lo) := kb.cell (i := 10) rfl
          have r8 : W1.cell? ⟨Bo, 11, none⟩ = some (.int .u16 v.rule.dp.hi) := kb.cell (i := 11) rfl
          have r9 : W1.cell? ⟨Bo, 12, none⟩ = some (.int .u8 v.rule.pr.v) := kb.cell (i := 12) rfl
          have r10 : W1.cell? ⟨Bo, 13, none⟩ = some (.int .u8 v.rule.pr.c) := kb.cell (i := 13) rfl
          have r11 : W1.cell? ⟨Bo, 14, none⟩ = some (.int .i64 v.rule.act) := kb.cell (i := 14) rfl
          have HIN := Sd.mk (HK.out.ins HE1.out.eng v.place v.rule HV.out.1)
          clear kb
          go_wp2_with fail
          refine HIN.out.mono ?_
          rintro x w2 ⟨rfl, hchg⟩
          obtain ⟨N2, hE2, hN2, hO2⟩ := HE1.out.chg hchg
          have hBo2 := HBo.out.only hO2 HNo.out
          have hL2 := HL1.out.chg hO2 hN2
          have HPI := Sd.mk (playInsert (c := c) hL2 (HK.out.lt hE2.eng) v.place v.rule HV.out.1 (HK.out.ok HE1.out.eng).2)
          have HE2 := Sd.mk hE2
          have HL2 := Sd.mk hL2
          have m0 := hE2.cfg.cell (i := 0) rfl
          clear p1 r0 r1 r2 r3 r4 r5 r6 r7 r8 r9 r10 r11 hchg hN2 hO2 hL2
          have p1 : w2.cell? ⟨Bo, 1, none⟩ = some (.int .i64 v.place) := hBo2.cell (i := 1) rfl
          have r0 : w2.cell? ⟨Bo, 3, none⟩ = some (.int .i64 v.rule.id) := hBo2.cell (i := 3) rfl
          have r1 : w2.cell? ⟨Bo, 4, none⟩ = some (.int .u32 v.rule.src.a) := hBo2.cell (i := 4) rfl
          have r2 : w2.cell? ⟨Bo, 5, none⟩ = some (.int .i64 v.rule.src.n) := hBo2.cell (i := 5) rfl
          have r3 : w2.cell? ⟨Bo, 6, none⟩ = some (.int .u32 v.rule.dst.a) := hBo2.cell (i := 6) rfl
          have r4 : w2.cell? ⟨Bo, 7, none⟩ = some (.int .i64 v.rule.dst.n) := hBo2.cell (i := 7) rfl
          have r5 : w2.cell? ⟨Bo, 8, none⟩ = some (.int .u16 v.rule.sp.lo) := hBo2.cell (i := 8) rfl
          have r6 : w2.cell? ⟨Bo, 9, none⟩ = some (.int .u16 v.rule.sp.hi) := hBo2.cell (i := 9) rfl
          have r7 : w2.cell? ⟨Bo, 10, none⟩ = some (.int .u16 v.rule.dp.lo) := hBo2.cell (i := 10) rfl
          have r8 : w2.cell? ⟨Bo, 11, none⟩ = some (.int .u16 v.rule.dp.hi) := hBo2.cell (i := 11) rfl
          have r9 : w2.cell? ⟨Bo, 12, none⟩ = some (.int .u8 v.rule.pr.v) := hBo2.cell (i := 12) rfl
          have r10 : w2.cell? ⟨Bo, 13, none⟩ = some (.int .u8 v.rule.pr.c) := hBo2.cell (i := 13) rfl
          have r11 : w2.cell? ⟨Bo, 14, none⟩ = some (.int .i64 v.rule.act) := hBo2.cell (i := 14) rfl
          clear hBo2 hE2
          go_wp2_with fail
          refine HPI.out.mono ?_
          rintro x w3 ⟨m, rfl, hb3, hm⟩
          have HE3 := Sd.mk (HE2.out.more HK.out hb3)
          have HL3 := Sd.mk (HL2.out.more hb3)
          have HMM := Sd.mk hm
          clear p1 r0 r1 r2 r3 r4 r5 r6 r7 r8 r9 r10 r11 m0 hb3 hm
          have k0 := HE3.out.kind.cell (i := 0) rfl
          have k1 := HE3.out.kind.cell (i := 1) rfl
          have k2 := HE3.out.kind.cell (i := 2) rfl
          have k3 := HE3.out.kind.cell (i := 3) rfl
          have kcf := HE3.out.cfg
          obtain ⟨f0, f1, f2, f3, f4, f5, f6⟩ := show w3.cell? ⟨B + 1, 0, none⟩ = some (.int .i64 c.max) ∧ w3.cell? ⟨B + 1, 1, none⟩ = some (.int .i64 c.dflt) ∧ w3.cell? ⟨B + 1, 2, none⟩ = some (.int .i64 c.prune) ∧ w3.cell? ⟨B + 1, 3, none⟩ = some (.int .i64 c.grid) ∧ w3.cell? ⟨B + 1, 4, none⟩ = some (.int .i64 c.tuple) ∧ w3.cell? ⟨B + 1, 5, none⟩ = some (.int .i64 c.binth) ∧ w3.cell? ⟨B + 1, 6, none⟩ = some (.int .i64 c.depth) from ⟨kcf.cell (i := 0) rfl, kcf.cell (i := 1) rfl, kcf.cell (i := 2) rfl, kcf.cell (i := 3) rfl, kcf.cell (i := 4) rfl, kcf.cell (i := 5) rfl, kcf.cell (i := 6) rfl⟩
          clear kcf
          have HRR := Sd.mk (HRO.out (insE c (fun _ => 0) rs v.place v.rule) m w3)
          go_wp2_with fail
          refine HRR.out.mono ?_
          rintro x w4 ⟨rfl, hb4⟩
          have HX : Sd (SwI P wB B c rs A cap m (insE c (fun _ => 0) rs v.place v.rule) w4) := ⟨N2, insL c (fun _ => 0) rs v.place v.rule, HE3.out.more HK.out hb4, fun h0 => by
            obtain ⟨A', cap', e1, e2⟩ := HMM.out h0
            exact ⟨A', cap', e1, e2.more hb4⟩, fun h0 => ⟨by unfold insL; rw [if_neg h0], HL3.out.more hb4⟩⟩
          clear k0 k1 k2 k3 f0 f1 f2 f3 f4 f5 f6 hb4
          go_wp2_with fail
          go_meet
          exact ⟨m, _, rfl, rfl, rfl, HX⟩
        · have ht1 : (v.kind == 1) = false := by simp [k1]
          by_cases k2 : v.kind = 2
          · have ht2 : (v.kind == 2) = true := by simp [k2]
            clear k1 k2
            have p2 : W1.cell? ⟨Bo, 2, none⟩ = some (.int .i64 v.id) := HBo.out.cell (i := 2) rfl
            have HDE := Sd.mk (HK.out.del HE1.out.eng v.id)
            go_wp2_with fail
            refine HDE.out.mono ?_
            rintro x w2 ⟨rfl, hchg⟩
            obtain ⟨N2, hE2, hN2, hO2⟩ := HE1.out.chg hchg
            have hBo2 := HBo.out.only hO2 HNo.out
            have hL2 := HL1.out.chg hO2 hN2
            have HPI := Sd.mk (playDelete hL2 (HK.out.lt hE2.eng) v.id (HK.out.ok HE1.out.eng).2)
            have HE2 := Sd.mk hE2
            have HL2 := Sd.mk hL2
            clear p2 c0 hchg hN2 hO2 hL2 hE2
            have p2 : w2.cell? ⟨Bo, 2, none⟩ = some (.int .i64 v.id) := hBo2.cell (i := 2) rfl
            clear hBo2
            go_wp2_with fail
            refine HPI.out.mono ?_
            rintro x w3 ⟨m, rfl, hb3, hm⟩
            have HX : Sd (SwI P wB B c rs A cap m (delE rs v.id) w3) := ⟨N2, delL rs v.id, HE2.out.more HK.out hb3, fun h0 => hm h0, fun h0 => ⟨by
              unfold delE at h0; unfold delL
              by_cases hf : findI rs v.id = -1
              · rw [if_pos hf]
              · rw [if_neg hf] at h0; exact absurd rfl h0, HL2.out.more hb3⟩⟩
            clear p2 hb3 hm
            go_wp2_with fail
            go_meet
            exact ⟨m, _, rfl, rfl, rfl, HX⟩
          · have ht2 : (v.kind == 2) = false := by simp [k2]
            by_cases k4 : v.kind = 4
            · have ht4 : (v.kind == 4) = true := by simp [k4]
              clear k1 k2 k4
              have p20 : W1.cell? ⟨Bo, 20, none⟩ = some (.slice v.la v.list.length v.lcap) := HBo.out.cell (i := 20) rfl
              have HLE := Sd.mk (lend_any v.list v.la v.lcap (by have := HV.out.2.2.2.2; omega) W1 (HOB.out W1 HE1.out.below))
              go_wp2_with fail
              refine HLE.out.mono ?_
              rintro x w2 ⟨og, rfl, hog, hob, hb2⟩
              have hE2 := HE1.out.more HK.out hb2
              have hL2 := HL1.out.more hb2
              have hBo2 := HBo.out.below hb2 HBo.out.lt
              have hNog : ¬ N' og := fun hn => by have := HK.out.lt HE1.out.eng _ hn; omega
              have HSE := Sd.mk (HK.out.set hE2.eng v.list (some ⟨og, 0, none⟩) (v.list.length + 2) HV.out.2.2.1 (by have := HV.out.2.2.2.2; omega) (by omega) (row_ruls hob) (fun _ a ha => by injection ha with ha; subst ha; exact hNog))
              have HX2 := Sd.mk (And.intro hE2 (And.intro hL2 (And.intro hBo2 (And.intro hNog (And.intro hob hog)))))
              clear p20 c0 hb2 hE2 hL2 hBo2 hNog hob hog
              go_wp2_with fail
              refine HSE.out.mono ?_
              rintro x w3 ⟨rfl, hchg⟩
              obtain ⟨N2, hE3, hN2, hO3⟩ := HX2.out.1.chg hchg
              have hL3 := HX2.out.2.1.chg hO3 hN2
              have hBo3 := HX2.out.2.2.1.only hO3 HNo.out
              have hob3 := HX2.out.2.2.2.2.1.only hO3 HX2.out.2.2.2.1
              have hNog3 : ¬ N2 og := fun hn => by
                rcases hN2 _ hn with h1 | h1
                · exact HX2.out.2.2.2.1 h1
                · have := HX2.out.2.2.2.2.1.lt; omega
              have HBA := Sd.mk (back_any v.list og v.la v.lcap (by have := HV.out.2.2.2.2; omega) w3 (HOB.out w3 hE3.below) hob3)
              have HX3 := Sd.mk (And.intro hE3 (And.intro hL3 (And.intro hBo3 (And.intro hNog3 hob3))))
              have p20 : w3.cell? ⟨Bo, 20, none⟩ = some (.slice v.la v.list.length v.lcap) := hBo3.cell (i := 20) rfl
              clear hchg hN2 hO3 hE3 hL3 hBo3 hob3 hNog3
              go_wp2_with fail
              refine HBA.out.mono ?_
              rintro x w4 ⟨rfl, hO4⟩
              have hE4 := HX3.out.1.back HK.out hO4 (by have := HX2.out.2.2.2.2.2; have := HE1.out.below.size; omega) (by have := HX2.out.2.2.2.2.2; have := HE1.out.kind.lt; omega) (by have := HX2.out.2.2.2.2.2; have := HE1.out.cfg.lt; omega) HX3.out.2.2.2.1 HX3.out.2.2.2.2 (by rw [List.size_toArray, rulsC_len]; simp; omega)
              have hL4 := HX3.out.2.1.back hO4 (fun a ha => by have := (HL1.out.out a ha).2; have := HX2.out.2.2.2.2.2; omega)
              have hBo4 := HX3.out.2.2.1.only hO4 (by have := HX2.out.2.2.2.2.2; have := HLB.out; omega)
              have HCP := Sd.mk (refCopy_any v.list v.la v.lcap w4 (by have := HV.out.2.2.2.2; omega) (HOB.out w4 hE4.below))
              have HX4 := Sd.mk (And.intro hE4 (And.intro hL4 hBo4))
              clear p20
              have p20 : w4.cell? ⟨Bo, 20, none⟩ = some (.slice v.la v.list.length v.lcap) := hBo4.cell (i := 20) rfl
              clear hO4 hE4 hL4 hBo4
              go_wp2_with fail
              refine HCP.out.mono ?_
              rintro x w5 ⟨cg, rfl, hown, hb5⟩
              obtain ⟨A5, cap5, hv5, hL5⟩ := PlayL.new hown (HK.out.lt HX4.out.1.eng)
              have hE5 := HX4.out.1.more HK.out hb5
              have hbo5 := HX4.out.2.2.below hb5 HX4.out.2.2.lt
              have hl5 := HX4.out.2.1.more hb5
              have HX5 := Sd.mk (And.intro hE5 (And.intro hl5 (And.intro hv5 hL5)))
              clear p20
              have p20 : w5.cell? ⟨Bo, 20, none⟩ = some (.slice v.la v.list.length v.lcap) := hbo5.cell (i := 20) rfl
              have KS : ∀ W, Below w5.heap.size w5 W → SetS w5 B Bo c v W := fun W hW => by
                have g1 := hE5.kind.below hW hE5.kind.lt
                have g2 := hE5.cfg.below hW hE5.cfg.lt
                have g3 := hbo5.below hW hbo5.lt
                have q : W.cell? ⟨B + 1, 0, none⟩ = some (.int .i64 c.max) ∧ W.cell? ⟨B + 1, 1, none⟩ = some (.int .i64 c.dflt) ∧ W.cell? ⟨B + 1, 2, none⟩ = some (.int .i64 c.prune) ∧ W.cell? ⟨B + 1, 3, none⟩ = some (.int .i64 c.grid) ∧ W.cell? ⟨B + 1, 4, none⟩ = some (.int .i64 c.tuple) ∧ W.cell? ⟨B + 1, 5, none⟩ = some (.int .i64 c.binth) ∧ W.cell? ⟨B + 1, 6, none⟩ = some (.int .i64 c.depth) := ⟨g2.cell (i := 0) rfl, g2.cell (i := 1) rfl, g2.cell (i := 2) rfl, g2.cell (i := 3) rfl, g2.cell (i := 4) rfl, g2.cell (i := 5) rfl, g2.cell (i := 6) rfl⟩
                exact ⟨hW, g1.cell (i := 0) rfl, g1.cell (i := 1) rfl, g1.cell (i := 2) rfl, g1.cell (i := 3) rfl, g2.cell (i := 0) rfl, g2.cell (i := 1) rfl, g2.cell (i := 2) rfl, g2.cell (i := 3) rfl, g2.cell (i := 4) rfl, g2.cell (i := 5) rfl, g2.cell (i := 6) rfl, g3.cell (i := 20) rfl⟩
              have HRS : Sd (∀ W, SetS w5 B Bo c v W → Calls Try.prog 41 #[.slice v.la v.list.length v.lcap, .int .i64 c.max] W fun x w' => x = .returned (.int .i64 (setI c v.list)) ∧ SetS w5 B Bo c v w') := ⟨fun W hW =>
                (refSet_any c v.list v.la v.lcap W HV.out.2.2.1 (by have := HV.out.2.2.2.2; omega) HV.out.2.2.2.1 (HOB.out W (beyond hE5.below hW.1))).mono fun x w' h => ⟨h.1, KS w' (beyond hW.1 h.2)⟩⟩
              have HRR : Sd (∀ W, SetS w5 B Bo c v W → Calls Try.prog 36 #[.agg #[.func (.func 33) #[] #[], .func (.func 34) #[] #[], .int .i64 0, .func (.func 13) #[] #[]], .agg #[.int .i64 c.max, .int .i64 c.dflt, .int .i64 c.prune, .int .i64 c.grid, .int .i64 c.tuple, .int .i64 c.binth, .int .i64 c.depth], .slice (some ⟨cg, 0, none⟩) v.list.length v.list.length, .int .i64 (setI c v.list)] W fun x w' => x = .returned (.int .i64 (setI c v.list)) ∧ SetS w5 B Bo c v w') := ⟨fun W hW =>
                (HRO.out (setI c v.list) (.slice (some ⟨cg, 0, none⟩) v.list.length v.list.length) W).mono fun x w' h => ⟨h.1, KS w' (beyond hW.1 h.2)⟩⟩
              have HS0 := Sd.mk (KS w5.drew (Below.refl w5.heap.size w5).drew)
              clear hown hb5 hv5 hL5 hE5 hbo5 hl5 KS p20
              go_upto_region 25 with fail
              refine wp_region_quietC (C := SetS w5 B Bo c v) (by kernel_rfl) (by kernel_rfl) (HS0.out) ?_
              repeat (first
                | go_big_quiet_skip
                | (go_big_quiet_want
                   first
                     | (refine quiet_run ?_
                        apply Exists.intro
                        refine ⟨fun w hw => ?_, ?_⟩
                        · ((unfold SetS at hw); go_split_ands; go_simp; (try with_reducible rfl))
                        go_big_quiet_on
                        try simp only [Act.put, List.setIfInBounds_toArray, List.set_cons_zero, List.set_cons_succ])
                     | (apply Exists.intro
                        refine ⟨fun w hw => ?_, ?_⟩
                        · (unfold Oper.quietAt; go_simp; first | (with_reducible exact HRS.out _ hw) | (with_reducible exact HRR.out _ hw))
                        go_big_quiet_on
                        try simp only [Act.put, List.setIfInBounds_toArray, List.set_cons_zero, List.set_cons_succ])))
              refine wpQuiet_nil ?_
              intro W hW
              have hb6 := hW.1
              have HX : Sd (SwI P wB B c rs A cap (.slice (some ⟨cg, 0, none⟩) v.list.length v.list.length) (setI c v.list) W) := ⟨N2, if setE c (fun _ => 0) v.list = 0 then v.list else rs, HX5.out.1.more HK.out hb6, fun h0 => by
                rw [setE_zero, if_pos h0]
                exact ⟨A5, cap5, HX5.out.2.2.1, HX5.out.2.2.2.more hb6⟩, fun h0 => by
                rw [setE_zero, if_neg h0]
                exact ⟨rfl, HX5.out.2.1.more hb6⟩⟩
              have hse := setE_zero c v.list
              clear hb6 hW
              go_wp2_with fail
              go_meet
              exact ⟨_, setI c v.list, rfl, by first | rfl | rw [hse], rfl, HX⟩
            · have ht4 : (v.kind == 4) = false := by simp [k4]
              clear k1 k2 k4
              have HAK := Sd.mk (HAS.out HE1.out.eng v.head HV.out.2.1 A cap HL1.out.lst)
              have q0 : W1.cell? ⟨Bo, 15, none⟩ = some (.int .u32 v.head.src) := HBo.out.cell (i := 15) rfl
              have q1 : W1.cell? ⟨Bo, 16, none⟩ = some (.int .u32 v.head.dst) := HBo.out.cell (i := 16) rfl
              have q2 : W1.cell? ⟨Bo, 17, none⟩ = some (.int .u16 v.head.sp) := HBo.out.cell (i := 17) rfl
              have q3 : W1.cell? ⟨Bo, 18, none⟩ = some (.int .u16 v.head.dp) := HBo.out.cell (i := 18) rfl
              have q4 : W1.cell? ⟨Bo, 19, none⟩ = some (.int .u8 v.head.pr) := HBo.out.cell (i := 19) rfl
              have k0 := HE1.out.kind.cell (i := 0) rfl
              have k1 := HE1.out.kind.cell (i := 1) rfl
              have k2 := HE1.out.kind.cell (i := 2) rfl
              have k3 := HE1.out.kind.cell (i := 3) rfl
              have kcf := HE1.out.cfg
              obtain ⟨f0, f1, f2, f3, f4, f5, f6⟩ := show W1.cell? ⟨B + 1, 0, none⟩ = some (.int .i64 c.max) ∧ W1.cell? ⟨B + 1, 1, none⟩ = some (.int .i64 c.dflt) ∧ W1.cell? ⟨B + 1, 2, none⟩ = some (.int .i64 c.prune) ∧ W1.cell? ⟨B + 1, 3, none⟩ = some (.int .i64 c.grid) ∧ W1.cell? ⟨B + 1, 4, none⟩ = some (.int .i64 c.tuple) ∧ W1.cell? ⟨B + 1, 5, none⟩ = some (.int .i64 c.binth) ∧ W1.cell? ⟨B + 1, 6, none⟩ = some (.int .i64 c.depth) from ⟨kcf.cell (i := 0) rfl, kcf.cell (i := 1) rfl, kcf.cell (i := 2) rfl, kcf.cell (i := 3) rfl, kcf.cell (i := 4) rfl, kcf.cell (i := 5) rfl, kcf.cell (i := 6) rfl⟩
              clear kcf
              go_wp2_with fail
              refine HAK.out.mono ?_
              rintro x w2 ⟨rfl, hb2⟩
              have HX : Sd (SwI P wB B c rs A cap (.slice A rs.length cap) 0 w2) := ⟨N', rs, HE1.out.more HK.out hb2, fun _ => ⟨A, cap, rfl, HL1.out.more hb2⟩, fun h0 => absurd rfl h0⟩
              clear c0 q0 q1 q2 q3 q4 k0 k1 k2 k3 f0 f1 f2 f3 f4 f5 f6 hb2
              go_wp2_with fail
              go_meet
              exact ⟨_, 0, rfl, rfl, rfl, HX⟩
      case rest =>
        obtain ⟨m, e, rfl, rfl, rfl, HX⟩ := hcut
        have hne : (e != e) = false := by simp
        go_upto_if 106 with fail
        go_cut [11] (fun s11 W => Sd (PlayJ P wB B c s11 W))
        case first =>
          obtain ⟨N2, rs2, hE, hp, hn⟩ := HX.out
          by_cases h0 : e = 0
          · obtain ⟨A2, cap2, rfl, hL⟩ := hp h0
            have ht : (e == 0) = true := by simp [h0]
            have HJ2 : Sd (PlayJ P wB B c (.slice A2 rs2.length cap2) wc) := ⟨N2, rs2, A2, cap2, rfl, hE, hL⟩
            clear hE hp hn h0 hL HX
            go_wp2_with fail
            go_meet
            exact HJ2
          · obtain ⟨rfl, hL⟩ := hn h0
            have ht : (e == 0) = false := by simp [h0]
            have HJ2 : Sd (PlayJ P wB B c (.slice A rs2.length cap) wc) := ⟨N2, rs2, A, cap, rfl, hE, hL⟩
            clear hE hp hn h0 hL HX
            go_wp2_with fail
            go_meet
            exact HJ2
        case rest =>
          obtain ⟨N3, rs3, A3, cap3, rfl, hE3, hL3⟩ := hcut.out
          have HP3 := Sd.mk (And.intro hE3 hL3)
          clear hE3 hL3 HX hne
          go_wp2
          go_loopw [18] (fun s18 wx => ∃ n : Nat, n ≤ hs.length ∧ s18 = .int .i64 n ∧ Sd (PlayE P wB B c N3 rs3 wx ∧ PlayL N3 rs3 A3 cap3 wx)) (fun s18 _ => hs.length - (intOf s18).toNat)
          case atStart => exact ⟨0, by omega, rfl, HP3⟩
          case round =>
            obtain ⟨n, hn, rfl, HI3⟩ := hrel
            by_cases hlt2 : n < hs.length
            · have hE3 := HI3.out.1
              have hL3 := HI3.out.2
              obtain ⟨hg, ho, rfl, _, b0, b1, b2, b3, b4⟩ := (HH.out.below hE3.below).cells n hlt2
              have HAK := Sd.mk (HAS.out (HK.out.below hE3.eng (Below.refl wr.heap.size wr).drew) hs[n] (HHF.out _ (List.getElem_mem hlt2)) A3 cap3 (hL3.lst.below (Below.refl wr.heap.size wr).drew))
              have k0 := hE3.kind.cell (i := 0) rfl
              have k1 := hE3.kind.cell (i := 1) rfl
              have k2 := hE3.kind.cell (i := 2) rfl
              have k3 := hE3.kind.cell (i := 3) rfl
              have kcf := hE3.cfg
              obtain ⟨f0, f1, f2, f3, f4, f5, f6⟩ := show wr.cell? ⟨B + 1, 0, none⟩ = some (.int .i64 c.max) ∧ wr.cell? ⟨B + 1, 1, none⟩ = some (.int .i64 c.dflt) ∧ wr.cell? ⟨B + 1, 2, none⟩ = some (.int .i64 c.prune) ∧ wr.cell? ⟨B + 1, 3, none⟩ = some (.int .i64 c.grid) ∧ wr.cell? ⟨B + 1, 4, none⟩ = some (.int .i64 c.tuple) ∧ wr.cell? ⟨B + 1, 5, none⟩ = some (.int .i64 c.binth) ∧ wr.cell? ⟨B + 1, 6, none⟩ = some (.int .i64 c.depth) from ⟨kcf.cell (i := 0) rfl, kcf.cell (i := 1) rfl, kcf.cell (i := 2) rfl, kcf.cell (i := 3) rfl, kcf.cell (i := 4) rfl, kcf.cell (i := 5) rfl, kcf.cell (i := 6) rfl⟩
              clear kcf hE3 hL3
              go_upto_region 33 with fail
              refine wp_region_still_tail 8 (by kernel_rfl) (by kernel_rfl) ?_
              change wpStill _ _ wr.drew _ _ _
              simp only [List.take_succ_cons, List.take_zero, List.drop_succ_cons, List.drop_zero]
              repeat still_step
              refine wpStill_nil ?_
              change wpList _ _ _ _ _ wr.drew
              go_wp2_with fail
              refine HAK.out.mono ?_
              rintro x w8 ⟨rfl, hb8⟩
              have hbx : Below wr.heap.size wr w8 := (Below.refl wr.heap.size wr).drew.trans hb8
              have HN8 : Sd (PlayE P wB B c N3 rs3 w8 ∧ PlayL N3 rs3 A3 cap3 w8) := ⟨HI3.out.1.more HK.out hbx, HI3.out.2.more hbx⟩
              clear hbx hb8 b0 b1 b2 b3 b4 k0 k1 k2 k3 f0 f1 f2 f3 f4 f5 f6
              go_wp2_with fail
              go_roundw
              case rel => exact ⟨n + 1, by omega, by go_num, HN8⟩
              case measure => simp [intOf]; omega
            · have HJ3 : Sd (PlayJ P wB B c (.slice A3 rs3.length cap3) wr) := ⟨N3, rs3, A3, cap3, rfl, HI3.out.1, HI3.out.2⟩
              clear HI3
              go_wp2
              go_roundw
              case rel => exact ⟨k + 1, by omega, by go_num, HJ3⟩
              case measure => simp [intOf]; omega
    · obtain ⟨N', rs, A, cap, rfl, h1, h2⟩ := HI.out
      have HQ := Sd.mk h1.below
      clear h1 h2
      go_wp2
      go_ret
      exact ⟨rfl, HQ.out⟩
end Go.Proofs.Ytljliopmphaoeaa
