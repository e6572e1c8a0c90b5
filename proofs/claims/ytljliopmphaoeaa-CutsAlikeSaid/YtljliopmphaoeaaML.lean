/- CutsPlays. CutsSets. -/
import Derived.Test.YtljliopmphaoeaaK9
namespace Go.Proofs.Ytljliopmphaoeaa
open Go Go.RowKit Go.Proofs.Ytljliopmphaoeaa.Q
/-- what is read of an argument that is a list of calls, of headers, of rules -/
structure OpsIn (W : World) (A : Option Addr) (cap : Nat) (os : List OpV) : Prop where
  lst : OpsAt W A os
  wf : ∀ o ∈ os, o.Wf
  max : os.length ≤ 9223372036854775807
structure HdrsIn (W : World) (A : Option Addr) (cap : Nat) (hs : List Hdr) : Prop where
  lst : HdrsAt W A hs
  wf : ∀ h ∈ hs, h.Wf
  max : hs.length ≤ 9223372036854775807
structure RulesIn (W : World) (A : Option Addr) (cap : Nat) (rs : List Rul) : Prop where
  lst : RulsAt W A rs
  wf : ∀ r ∈ rs, r.Wf
  le : rs.length ≤ cap
  max : cap ≤ 9223372036854775807
theorem large_off {os : List OpV} {nh : Nat} (h : largeI os nh = false) : os.length ≤ 2000 ∧ nh ≤ 2000 ∧ ∀ o ∈ os, o.list.length ≤ 2000 := by
  unfold largeI manyI at h
  simp only [Bool.or_eq_false_iff, decide_eq_false_iff_not, List.any_eq_false, decide_eq_true_eq] at h
  exact ⟨by omega, by omega, fun o ho => by have := h.2 o ho; omega⟩
set_option maxHeartbeats 2000000 in
set_option maxRecDepth 100000 in
/-- the awake arm: too much, or no such configuration -/
theorem lawPlays_off (c : Cfg) (os : List OpV) (SA : Option Addr) (scap : Nat) (hs : List Hdr) (HA : Option Addr) (hcap : Nat) (w : World) (hO : OpsIn w SA scap os) (hoff : largeI os hs.length = true ∨ c.ck = 110) :
    Calls Try.prog 6 #[.agg #[.int .i64 c.max, .int .i64 c.dflt, .int .i64 c.prune, .int .i64 c.grid, .int .i64 c.tuple, .int .i64 c.binth, .int .i64 c.depth], .slice SA os.length scap, .slice HA hs.length hcap] w fun e w' => e = .returned (.bool true) ∧ Below w.heap.size w w' := by
  obtain ⟨M, hM⟩ : ∃ M, w.alloc (.cells #[.int .i64 c.max, .int .i64 c.dflt, .int .i64 c.prune, .int .i64 c.grid, .int .i64 c.tuple, .int .i64 c.binth, .int .i64 c.depth] 24) = M := ⟨_, rfl⟩
  have hb : Below w.heap.size w M := by rw [← hM]; exact below_alloc (Below.refl _ _) _
  have hcb : Blk M w.heap.size #[.int .i64 c.max, .int .i64 c.dflt, .int .i64 c.prune, .int .i64 c.grid, .int .i64 c.tuple, .int .i64 c.binth, .int .i64 c.depth] 24 := by rw [← hM]; exact Blk.new _ _ _
  have HL := Sd.mk (large_any os SA HA scap hs.length hcap hO.max M (hO.lst.below hb))
  have HA' := Sd.mk awake_any
  have HC := Sd.mk (refCheck_any c)
  have HB := Sd.mk hb
  have HM := Sd.mk hM
  obtain ⟨c0, c1, c2, c3, c4, c5, c6⟩ := show M.cell? ⟨w.heap.size, 0, none⟩ = some (.int .i64 c.max) ∧ M.cell? ⟨w.heap.size, 1, none⟩ = some (.int .i64 c.dflt) ∧ M.cell? ⟨w.heap.size, 2, none⟩ = some (.int .i64 c.prune) ∧ M.cell? ⟨w.heap.size, 3, none⟩ = some (.int .i64 c.grid) ∧ M.cell? ⟨w.heap.size, 4, none⟩ = some (.int .i64 c.tuple) ∧ M.cell? ⟨w.heap.size, 5, none⟩ = some (.int .i64 c.binth) ∧ M.cell? ⟨w.heap.size, 6, none⟩ = some (.int .i64 c.depth) from ⟨hcb.cell (i := 0) rfl, hcb.cell (i := 1) rfl, hcb.cell (i := 2) rfl, hcb.cell (i := 3) rfl, hcb.cell (i := 4) rfl, hcb.cell (i := 5) rfl, hcb.cell (i := 6) rfl⟩
  clear hb hcb hM hO
  by_cases hl : largeI os hs.length = true
  · rw [hl] at HL
    clear hoff hl
    go_enter Try.func6, Try.ntmps6
    go_upto_region 1 with fail
    rw [HM.out]
    go_wp2_with fail
    refine HL.out.mono ?_
    rintro e w1 ⟨rfl, rfl⟩
    go_wp2_with fail
    refine (HA'.out _).mono ?_
    rintro e w2 ⟨rfl, hb2⟩
    have HB2 := Sd.mk (beyond HB.out hb2)
    clear hb2
    go_wp2_with fail
    go_ret
    exact ⟨rfl, HB2.out⟩
  · have hl' : largeI os hs.length = false := by simpa using hl
    have hck : c.ck = 110 := by rcases hoff with h | h; exact absurd h hl; exact h
    rw [hl'] at HL
    have HCC : Sd (∀ W, Calls Try.prog 9 #[.agg #[.int .i64 c.max, .int .i64 c.dflt, .int .i64 c.prune, .int .i64 c.grid, .int .i64 c.tuple, .int .i64 c.binth, .int .i64 c.depth]] W fun e w' => e = .returned (.int .i64 110) ∧ Below W.heap.size W w') := ⟨fun W => by have := HC.out W; rwa [hck] at this⟩
    clear hoff hl hl' hck
    go_enter Try.func6, Try.ntmps6
    go_upto_region 1 with fail
    rw [HM.out]
    go_wp2_with fail
    refine HL.out.mono ?_
    rintro e w1 ⟨rfl, rfl⟩
    go_wp2_with fail
    refine (HCC.out _).mono ?_
    rintro e w2 ⟨rfl, hb2⟩
    have HB2 := Sd.mk (beyond HB.out hb2)
    clear hb2 c0 c1 c2 c3 c4 c5 c6
    go_wp2_with fail
    refine (HA'.out _).mono ?_
    rintro e w3 ⟨rfl, hb3⟩
    have HB3 := Sd.mk (beyond HB2.out hb3)
    clear hb3
    go_wp2_with fail
    go_ret
    exact ⟨rfl, HB3.out⟩
set_option maxHeartbeats 4000000 in
set_option maxRecDepth 100000 in
theorem lawPlays_on (c : Cfg) (os : List OpV) (SA : Option Addr) (scap : Nat) (hs : List Hdr) (HA : Option Addr) (hcap : Nat) (w : World) (hO : OpsIn w SA scap os) (hH : HdrsIn w HA hcap hs) (hon : largeI os hs.length = false) (hc : c.ck = 0) :
    Calls Try.prog 6 #[.agg #[.int .i64 c.max, .int .i64 c.dflt, .int .i64 c.prune, .int .i64 c.grid, .int .i64 c.tuple, .int .i64 c.binth, .int .i64 c.depth], .slice SA os.length scap, .slice HA hs.length hcap] w fun e w' => e = .returned (.bool true) ∧ Below w.heap.size w w' := by
  obtain ⟨M, hM⟩ : ∃ M, w.alloc (.cells #[.int .i64 c.max, .int .i64 c.dflt, .int .i64 c.prune, .int .i64 c.grid, .int .i64 c.tuple, .int .i64 c.binth, .int .i64 c.depth] 24) = M := ⟨_, rfl⟩
  have hb : Below w.heap.size w M := by rw [← hM]; exact below_alloc (Below.refl _ _) _
  have hcb : Blk M w.heap.size #[.int .i64 c.max, .int .i64 c.dflt, .int .i64 c.prune, .int .i64 c.grid, .int .i64 c.tuple, .int .i64 c.binth, .int .i64 c.depth] 24 := by rw [← hM]; exact Blk.new _ _ _
  have KL := large_any os SA HA scap hs.length hcap hO.max M (hO.lst.below hb)
  rw [hon] at KL
  have KC := refCheck_any c
  rw [hc] at KC
  obtain ⟨b1, b2, b3⟩ := large_off hon
  have HL := Sd.mk KL
  have HA' := Sd.mk awake_any
  have HC := Sd.mk KC
  have HN := Sd.mk (fun W => eng_new c W hc)
  have HB := Sd.mk hb
  have HM := Sd.mk hM
  have HCB := Sd.mk hcb
  have HPL : Sd (∀ (E T base : Nat) (W : World) (N : Nat → Prop), EngP E T base c W N [] → (∀ k, N k → M.heap.size ≤ k) → Below M.heap.size M W → Calls Try.prog 22 #[.agg #[.func (.func 33) #[] #[], .func (.func 34) #[] #[], .int .i64 0, .func (.func 13) #[] #[]], .iface 31 (.pointer (some ⟨E, 0, none⟩)), .agg #[.int .i64 c.max, .int .i64 c.dflt, .int .i64 c.prune, .int .i64 c.grid, .int .i64 c.tuple, .int .i64 c.binth, .int .i64 c.depth], .slice SA os.length scap, .slice HA hs.length hcap] W fun e w' => e = .returned (.bool true) ∧ Below M.heap.size M w') := ⟨fun E T base W N hP hN hW => by
    have := play_any (eng_kind E T base c) (wB := M) (w := W) os hs SA HA scap hcap b1 b2 (fun o ho => ⟨hO.wf o ho, b3 o ho⟩) hH.wf (hO.lst.below hb) (hH.lst.below hb) hP hN hW
    unfold kindC at this
    exact this⟩
  have HKI : Sd (∀ W, Calls Try.prog 21 #[] W fun e w' => e = .returned (.agg #[.func (.func 33) #[] #[], .func (.func 34) #[] #[], .int .i64 0, .func (.func 13) #[] #[]]) ∧ Below W.heap.size W w') := ⟨fun W => by have := kind_any W; unfold kindC at this; exact this⟩
  obtain ⟨c0, c1, c2, c3, c4, c5, c6⟩ := show M.cell? ⟨w.heap.size, 0, none⟩ = some (.int .i64 c.max) ∧ M.cell? ⟨w.heap.size, 1, none⟩ = some (.int .i64 c.dflt) ∧ M.cell? ⟨w.heap.size, 2, none⟩ = some (.int .i64 c.prune) ∧ M.cell? ⟨w.heap.size, 3, none⟩ = some (.int .i64 c.grid) ∧ M.cell? ⟨w.heap.size, 4, none⟩ = some (.int .i64 c.tuple) ∧ M.cell? ⟨w.heap.size, 5, none⟩ = some (.int .i64 c.binth) ∧ M.cell? ⟨w.heap.size, 6, none⟩ = some (.int .i64 c.depth) from ⟨hcb.cell (i := 0) rfl, hcb.cell (i := 1) rfl, hcb.cell (i := 2) rfl, hcb.cell (i := 3) rfl, hcb.cell (i := 4) rfl, hcb.cell (i := 5) rfl, hcb.cell (i := 6) rfl⟩
  clear hb hcb hM hO hH KL KC b1 b2 b3 hon hc
  go_enter Try.func6, Try.ntmps6
  go_upto_region 1 with fail
  rw [HM.out]
  go_wp2_with fail
  refine HL.out.mono ?_
  rintro e w1 ⟨rfl, rfl⟩
  go_wp2_with fail
  refine (HC.out _).mono ?_
  rintro e w2 ⟨rfl, hb2⟩
  have kc2 := HCB.out.below hb2 HCB.out.lt
  have HB2 := Sd.mk hb2
  clear hb2 c0 c1 c2 c3 c4 c5 c6
  obtain ⟨c0, c1, c2, c3, c4, c5, c6⟩ := show w2.cell? ⟨w.heap.size, 0, none⟩ = some (.int .i64 c.max) ∧ w2.cell? ⟨w.heap.size, 1, none⟩ = some (.int .i64 c.dflt) ∧ w2.cell? ⟨w.heap.size, 2, none⟩ = some (.int .i64 c.prune) ∧ w2.cell? ⟨w.heap.size, 3, none⟩ = some (.int .i64 c.grid) ∧ w2.cell? ⟨w.heap.size, 4, none⟩ = some (.int .i64 c.tuple) ∧ w2.cell? ⟨w.heap.size, 5, none⟩ = some (.int .i64 c.binth) ∧ w2.cell? ⟨w.heap.size, 6, none⟩ = some (.int .i64 c.depth) from ⟨kc2.cell (i := 0) rfl, kc2.cell (i := 1) rfl, kc2.cell (i := 2) rfl, kc2.cell (i := 3) rfl, kc2.cell (i := 4) rfl, kc2.cell (i := 5) rfl, kc2.cell (i := 6) rfl⟩
  clear kc2
  go_wp2_with fail
  refine (HN.out _).mono ?_
  rintro e w3 ⟨E, T, base, rfl, ⟨N, hP, hN⟩, hb3⟩
  have hb03 := beyond HB2.out hb3
  have KS : ∀ W, Below M.heap.size M W → W.cell? ⟨w.heap.size, 0, none⟩ = some (.int .i64 c.max) ∧ W.cell? ⟨w.heap.size, 1, none⟩ = some (.int .i64 c.dflt) ∧ W.cell? ⟨w.heap.size, 2, none⟩ = some (.int .i64 c.prune) ∧ W.cell? ⟨w.heap.size, 3, none⟩ = some (.int .i64 c.grid) ∧ W.cell? ⟨w.heap.size, 4, none⟩ = some (.int .i64 c.tuple) ∧ W.cell? ⟨w.heap.size, 5, none⟩ = some (.int .i64 c.binth) ∧ W.cell? ⟨w.heap.size, 6, none⟩ = some (.int .i64 c.depth) := fun W hW => by
    have g1 := HCB.out.below hW HCB.out.lt
    exact ⟨g1.cell (i := 0) rfl, g1.cell (i := 1) rfl, g1.cell (i := 2) rfl, g1.cell (i := 3) rfl, g1.cell (i := 4) rfl, g1.cell (i := 5) rfl, g1.cell (i := 6) rfl⟩
  have HKS := Sd.mk KS
  have HK2 : Sd (∀ W, Below w3.heap.size w3 W → Calls Try.prog 21 #[] W fun e w' => e = .returned (.agg #[.func (.func 33) #[] #[], .func (.func 34) #[] #[], .int .i64 0, .func (.func 13) #[] #[]]) ∧ (w'.cell? ⟨w.heap.size, 0, none⟩ = some (.int .i64 c.max) ∧ w'.cell? ⟨w.heap.size, 1, none⟩ = some (.int .i64 c.dflt) ∧ w'.cell? ⟨w.heap.size, 2, none⟩ = some (.int .i64 c.prune) ∧ w'.cell? ⟨w.heap.size, 3, none⟩ = some (.int .i64 c.grid) ∧ w'.cell? ⟨w.heap.size, 4, none⟩ = some (.int .i64 c.tuple) ∧ w'.cell? ⟨w.heap.size, 5, none⟩ = some (.int .i64 c.binth) ∧ w'.cell? ⟨w.heap.size, 6, none⟩ = some (.int .i64 c.depth)) ∧ Below w3.heap.size w3 w') := ⟨fun W hW => (HKI.out W).mono fun e w' h => ⟨h.1, KS w' (beyond hb03 (beyond hW h.2)), beyond hW h.2⟩⟩
  have HP2 : Sd (∀ W, Below w3.heap.size w3 W → Calls Try.prog 22 #[.agg #[.func (.func 33) #[] #[], .func (.func 34) #[] #[], .int .i64 0, .func (.func 13) #[] #[]], .iface 31 (.pointer (some ⟨E, 0, none⟩)), .agg #[.int .i64 c.max, .int .i64 c.dflt, .int .i64 c.prune, .int .i64 c.grid, .int .i64 c.tuple, .int .i64 c.binth, .int .i64 c.depth], .slice SA os.length scap, .slice HA hs.length hcap] W fun e w' => e = .returned (.bool true) ∧ (w'.cell? ⟨w.heap.size, 0, none⟩ = some (.int .i64 c.max) ∧ w'.cell? ⟨w.heap.size, 1, none⟩ = some (.int .i64 c.dflt) ∧ w'.cell? ⟨w.heap.size, 2, none⟩ = some (.int .i64 c.prune) ∧ w'.cell? ⟨w.heap.size, 3, none⟩ = some (.int .i64 c.grid) ∧ w'.cell? ⟨w.heap.size, 4, none⟩ = some (.int .i64 c.tuple) ∧ w'.cell? ⟨w.heap.size, 5, none⟩ = some (.int .i64 c.binth) ∧ w'.cell? ⟨w.heap.size, 6, none⟩ = some (.int .i64 c.depth)) ∧ Below M.heap.size M w') := ⟨fun W hW =>
    (HPL.out E T base W N ((eng_kind E T base c).below hP hW) (fun k hk => Nat.le_trans HB2.out.size (hN k hk)) (beyond hb03 hW)).mono fun e w' h => ⟨h.1, KS w' h.2, h.2⟩⟩
  have HA2 : Sd (∀ W, Below M.heap.size M W → Calls Try.prog 11 #[] W fun e w' => e = .returned (.bool true) ∧ (w'.cell? ⟨w.heap.size, 0, none⟩ = some (.int .i64 c.max) ∧ w'.cell? ⟨w.heap.size, 1, none⟩ = some (.int .i64 c.dflt) ∧ w'.cell? ⟨w.heap.size, 2, none⟩ = some (.int .i64 c.prune) ∧ w'.cell? ⟨w.heap.size, 3, none⟩ = some (.int .i64 c.grid) ∧ w'.cell? ⟨w.heap.size, 4, none⟩ = some (.int .i64 c.tuple) ∧ w'.cell? ⟨w.heap.size, 5, none⟩ = some (.int .i64 c.binth) ∧ w'.cell? ⟨w.heap.size, 6, none⟩ = some (.int .i64 c.depth)) ∧ Below M.heap.size M w') := ⟨fun W hW => (HA'.out W).mono fun e w' h => ⟨h.1, KS w' (beyond hW h.2), beyond hW h.2⟩⟩
  have hm0 : Below w3.heap.size w3 w3.drew := (Below.refl _ _).drew
  have HS0 := Sd.mk (KS w3.drew (beyond hb03 hm0))
  have HZ := Sd.mk HB.out
  clear c0 c1 c2 c3 c4 c5 c6 hP hN hb3 hb03 KS
  go_upto_region 6 with fail
  go_region_held3 (fun W => W.cell? ⟨w.heap.size, 0, none⟩ = some (.int .i64 c.max) ∧ W.cell? ⟨w.heap.size, 1, none⟩ = some (.int .i64 c.dflt) ∧ W.cell? ⟨w.heap.size, 2, none⟩ = some (.int .i64 c.prune) ∧ W.cell? ⟨w.heap.size, 3, none⟩ = some (.int .i64 c.grid) ∧ W.cell? ⟨w.heap.size, 4, none⟩ = some (.int .i64 c.tuple) ∧ W.cell? ⟨w.heap.size, 5, none⟩ = some (.int .i64 c.binth) ∧ W.cell? ⟨w.heap.size, 6, none⟩ = some (.int .i64 c.depth))
    (first | (with_reducible assumption) | (with_reducible exact HS0.out))
    (first | (go_at_call 21; with_reducible refine (HK2.out _ hm0).mono ?_; rintro x w6 ⟨rfl, hs1, hm1⟩) | (go_at_call 22; with_reducible refine (HP2.out _ hm1).mono ?_; rintro x w7 ⟨rfl, hs2, hm2⟩) | (go_at_call 11; with_reducible refine (HA2.out _ hm2).mono ?_; rintro x w8 ⟨rfl, hs3, hm3⟩))
  all_goals
    go_wp2_with fail
    go_ret
    exact ⟨rfl, HZ.out.trans (hm3.mono HZ.out.size)⟩
theorem lawPlays_any (c : Cfg) (os : List OpV) (SA : Option Addr) (scap : Nat) (hs : List Hdr) (HA : Option Addr) (hcap : Nat) (w : World) (hO : OpsIn w SA scap os) (hH : HdrsIn w HA hcap hs) :
    Calls Try.prog 6 #[.agg #[.int .i64 c.max, .int .i64 c.dflt, .int .i64 c.prune, .int .i64 c.grid, .int .i64 c.tuple, .int .i64 c.binth, .int .i64 c.depth], .slice SA os.length scap, .slice HA hs.length hcap] w fun e w' => e = .returned (.bool true) ∧ Below w.heap.size w w' := by
  cases hl : largeI os hs.length with
  | true => exact lawPlays_off c os SA scap hs HA hcap w hO (.inl hl)
  | false =>
    rcases c.ck_cases with hc | hc
    · exact lawPlays_on c os SA scap hs HA hcap w hO hH hl hc
    · exact lawPlays_off c os SA scap hs HA hcap w hO (.inr hc)
end Go.Proofs.Ytljliopmphaoeaa

namespace Go.Proofs.Ytljliopmphaoeaa
open Go Go.RowKit Go.Proofs.Ytljliopmphaoeaa.Q
def zeroH : Hdr := ⟨0, 0, 0, 0, 0⟩
theorem zeroR_wf : zeroR.Wf := ⟨by decide, ⟨by decide, by decide⟩, ⟨by decide, by decide⟩, ⟨by decide, by decide⟩, ⟨by decide, by decide⟩, ⟨by decide, by decide⟩, by decide⟩
theorem zeroH_wf : zeroH.Wf := ⟨by decide, by decide, by decide, by decide, by decide⟩
def setOp (rs : List Rul) (A : Option Addr) (cap : Nat) : OpV := ⟨4, 0, 0, zeroR, zeroH, A, cap, rs⟩
theorem built_op (A : Option Addr) (n cap : Nat) (w : World) : (Instr.build 75 #[(0, .int .i64 4), (5, .slice A n cap)]).run Try.prog w = .ok (.agg #[.int .i64 4, .int .i64 0, .int .i64 0, .int .i64 0, .int .u32 0, .int .i64 0, .int .u32 0, .int .i64 0, .int .u16 0, .int .u16 0, .int .u16 0, .int .u16 0, .int .u8 0, .int .u8 0, .int .i64 0, .int .u32 0, .int .u32 0, .int .u16 0, .int .u16 0, .int .u8 0, .slice A n cap]) w := run_build w _ _ _ (by kernel_rfl)
theorem built_ops (A : Option Addr) (n cap : Nat) (w : World) : (Instr.buildSlice 65 1 #[(0, .agg #[.int .i64 4, .int .i64 0, .int .i64 0, .int .i64 0, .int .u32 0, .int .i64 0, .int .u32 0, .int .i64 0, .int .u16 0, .int .u16 0, .int .u16 0, .int .u16 0, .int .u8 0, .int .u8 0, .int .i64 0, .int .u32 0, .int .u32 0, .int .u16 0, .int .u16 0, .int .u8 0, .slice A n cap])]).run Try.prog w = .ok (.slice (some ⟨w.heap.size, 0, none⟩) 1 1) (w.alloc (.cells #[.int .i64 4, .int .i64 0, .int .i64 0, .int .i64 0, .int .u32 0, .int .i64 0, .int .u32 0, .int .i64 0, .int .u16 0, .int .u16 0, .int .u16 0, .int .u16 0, .int .u8 0, .int .u8 0, .int .i64 0, .int .u32 0, .int .u32 0, .int .u16 0, .int .u16 0, .int .u8 0, .slice A n cap] 75)) := by kernel_rfl
section
variable {ops : Array Oper} {rest : List Oper} {o : Oper} {a : Act} {w : World} {Q : Exit → Act → World → Prop}
theorem build_op (hgd : o.guard = none) (y : Operand) (ho : o.op = .build 75 #[(0, .const (.int .i64 4)), (5, y)]) (A : Option Addr) (n cap : Nat) (hy : a.eval y = .slice A n cap)
    (h : wpList Try.prog ops Q rest (a.put o.dst (.agg #[.int .i64 4, .int .i64 0, .int .i64 0, .int .i64 0, .int .u32 0, .int .i64 0, .int .u32 0, .int .i64 0, .int .u16 0, .int .u16 0, .int .u16 0, .int .u16 0, .int .u8 0, .int .u8 0, .int .i64 0, .int .u32 0, .int .u32 0, .int .u16 0, .int .u16 0, .int .u8 0, .slice A n cap])) w) : wpList Try.prog ops Q (o :: rest) a w := by
  refine wpList_plain hgd fun K hK => ?_
  have hb := built_op A n cap w
  unfold Oper.wp execOp
  simp only [ho, List.map_toArray, List.map_cons, List.map_nil, hy, show a.eval (.const (.int .i64 4)) = .int .i64 4 from rfl, Sem.run_bind, Sem.run_pure, hb, Result.andThen_ok]
  exact hK _ _ h
theorem build_ops (hgd : o.guard = none) (y : Operand) (ho : o.op = .buildSlice 65 1 #[(0, y)]) (A : Option Addr) (n cap : Nat) (hy : a.eval y = .agg #[.int .i64 4, .int .i64 0, .int .i64 0, .int .i64 0, .int .u32 0, .int .i64 0, .int .u32 0, .int .i64 0, .int .u16 0, .int .u16 0, .int .u16 0, .int .u16 0, .int .u8 0, .int .u8 0, .int .i64 0, .int .u32 0, .int .u32 0, .int .u16 0, .int .u16 0, .int .u8 0, .slice A n cap])
    (h : ∀ w', w.alloc (.cells #[.int .i64 4, .int .i64 0, .int .i64 0, .int .i64 0, .int .u32 0, .int .i64 0, .int .u32 0, .int .i64 0, .int .u16 0, .int .u16 0, .int .u16 0, .int .u16 0, .int .u8 0, .int .u8 0, .int .i64 0, .int .u32 0, .int .u32 0, .int .u16 0, .int .u16 0, .int .u8 0, .slice A n cap] 75) = w' → wpList Try.prog ops Q rest (a.put o.dst (.slice (some ⟨w.heap.size, 0, none⟩) 1 1)) w') : wpList Try.prog ops Q (o :: rest) a w := by
  refine wpList_plain hgd fun K hK => ?_
  have hb := built_ops A n cap w
  unfold Oper.wp execOp
  simp only [ho, List.map_toArray, List.map_cons, List.map_nil, hy, Sem.run_bind, Sem.run_pure, hb, Result.andThen_ok]
  exact hK _ _ (h _ rfl)
end
set_option maxHeartbeats 4000000 in
set_option maxRecDepth 100000 in
theorem lawSets_any (c : Cfg) (rs : List Rul) (A : Option Addr) (cap : Nat) (hs : List Hdr) (HA : Option Addr) (hcap : Nat) (w : World) (hR : RulesIn w A cap rs) (hH : HdrsIn w HA hcap hs) :
    Calls Try.prog 7 #[.agg #[.int .i64 c.max, .int .i64 c.dflt, .int .i64 c.prune, .int .i64 c.grid, .int .i64 c.tuple, .int .i64 c.binth, .int .i64 c.depth], .slice A rs.length cap, .slice HA hs.length hcap] w fun e w' => e = .returned (.bool true) ∧ Below w.heap.size w w' := by
  obtain ⟨M, hM⟩ : ∃ M, w.alloc (.cells #[.int .i64 c.max, .int .i64 c.dflt, .int .i64 c.prune, .int .i64 c.grid, .int .i64 c.tuple, .int .i64 c.binth, .int .i64 c.depth] 24) = M := ⟨_, rfl⟩
  have hb : Below w.heap.size w M := by rw [← hM]; exact below_alloc (Below.refl _ _) _
  have hcb : Blk M w.heap.size #[.int .i64 c.max, .int .i64 c.dflt, .int .i64 c.prune, .int .i64 c.grid, .int .i64 c.tuple, .int .i64 c.binth, .int .i64 c.depth] 24 := by rw [← hM]; exact Blk.new _ _ _
  have HM := Sd.mk hM
  have HB := Sd.mk hb
  have HIN := Sd.mk (And.intro hR hH)
  have HP := Sd.mk (fun B W hO hH => lawPlays_any c [setOp rs A cap] (some ⟨B, 0, none⟩) 1 hs HA hcap W hO hH)
  obtain ⟨c0, c1, c2, c3, c4, c5, c6⟩ := show M.cell? ⟨w.heap.size, 0, none⟩ = some (.int .i64 c.max) ∧ M.cell? ⟨w.heap.size, 1, none⟩ = some (.int .i64 c.dflt) ∧ M.cell? ⟨w.heap.size, 2, none⟩ = some (.int .i64 c.prune) ∧ M.cell? ⟨w.heap.size, 3, none⟩ = some (.int .i64 c.grid) ∧ M.cell? ⟨w.heap.size, 4, none⟩ = some (.int .i64 c.tuple) ∧ M.cell? ⟨w.heap.size, 5, none⟩ = some (.int .i64 c.binth) ∧ M.cell? ⟨w.heap.size, 6, none⟩ = some (.int .i64 c.depth) from ⟨hcb.cell (i := 0) rfl, hcb.cell (i := 1) rfl, hcb.cell (i := 2) rfl, hcb.cell (i := 3) rfl, hcb.cell (i := 4) rfl, hcb.cell (i := 5) rfl, hcb.cell (i := 6) rfl⟩
  clear hcb hM hb hR hH
  go_enter Try.func7, Try.ntmps7
  go_upto_region 1 with fail
  rw [HM.out]
  go_wp2_with (first | (with_reducible refine build_op rfl (.tmp 8) rfl A rs.length cap rfl ?_) | (with_reducible refine build_ops rfl (.tmp 9) rfl A rs.length cap rfl ?_; intro M2 hM2))
  have hb2 : Below M.heap.size M M2 := by rw [← hM2]; exact below_alloc (Below.refl _ _) _
  have hbk : Blk M2 M.heap.size (opC (setOp rs A cap)) 75 := by rw [← hM2]; exact Blk.new _ _ _
  have hb12 := beyond HB.out hb2
  have hO : OpsIn M2 (some ⟨M.heap.size, 0, none⟩) 1 [setOp rs A cap] := ⟨⟨fun k hk => ⟨M.heap.size, 0, rfl, hbk.lt, fun i u hu => by
      have hk0 : k = 0 := by simpa using hk
      subst hk0
      rw [hbk.at]
      simpa using hu⟩, fun k hk => by
      have hk0 : k = 0 := by simpa using hk
      subst hk0
      exact HIN.out.1.lst.below hb12⟩, fun o ho => by
      have : o = setOp rs A cap := by simpa using ho
      subst this
      exact ⟨zeroR_wf, zeroH_wf, HIN.out.1.wf, HIN.out.1.le⟩, by simp⟩
  refine (HP.out M.heap.size M2 hO ⟨HIN.out.2.lst.below hb12, HIN.out.2.wf, HIN.out.2.max⟩).mono ?_
  rintro x w3 ⟨rfl, hb3⟩
  have HZ := Sd.mk (beyond hb12 hb3)
  clear hb3 hO hbk hb2 hb12 hM2 c0 c1 c2 c3 c4 c5 c6
  go_wp2_with fail
  go_ret
  exact ⟨rfl, HZ.out⟩
end Go.Proofs.Ytljliopmphaoeaa
