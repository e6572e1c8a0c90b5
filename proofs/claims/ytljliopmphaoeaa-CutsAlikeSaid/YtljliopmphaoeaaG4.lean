/- An engine of cuts: New, and what is done behind each change. -/
import Derived.Test.YtljliopmphaoeaaG3
namespace Go.Proofs.Ytljliopmphaoeaa
open Go Go.RowKit Go.Proofs.Ytljliopmphaoeaa.Q

def Cfg.B (c : Cfg) : Nat := c.binth.toNat
def Cfg.D (c : Cfg) : Nat := c.depth.toNat
theorem Cfg.facts {c : Cfg} (h : c.ck = 0) : c.binth = c.B ∧ c.depth = c.D ∧ 1 ≤ c.B ∧ c.B ≤ 16 ∧ c.D ≤ 10 ∧ 1 ≤ c.max ∧ c.max ≤ 64 := by
  have hk : c.ok = true := by
    cases ho : c.ok with
    | true => rfl
    | false => unfold Cfg.ck at h; rw [ho] at h; simp at h
  unfold Cfg.ok btw at hk
  simp only [Bool.and_eq_true, decide_eq_true_eq] at hk
  unfold Cfg.B Cfg.D
  omega
/-- an engine: its configuration, its table, its rules' copy, and its tree -/
structure EngI (W : World) (E T base : Nat) (c : Cfg) (tv lv : Value) (rs : List Rul) : Prop where
  eng : ∃ bv nv en ns l0, EngAt W E c (.pointer (some ⟨T, 0, none⟩)) lv bv nv en ∧ OwnD W 0 nv ns ∧ l0 = insideI (boxesOf rs) Bx.whole (List.range rs.length) ∧ Tree W ns (boxesOf rs) c.B c.D 0 Bx.whole l0 0 ∧ 1 ≤ ns.length ∧ ns.length + 1 ≤ 2 ^ (c.D + 1) ∧ en ≤ ns.length * rs.length
  tab : TabAt W T c tv
  own : OwnR W base tv rs
  lst : OwnR W 0 lv rs
  ok : ∀ r ∈ rs, r.Wf ∧ r.may = true
  len : (rs.length : Int) ≤ c.max
  cok : c.ck = 0
  hT : T < base
  hE : E < base
  hb : base ≤ W.heap.size
theorem EngI.below {W W' : World} {E T base : Nat} {c : Cfg} {tv lv : Value} {rs : List Rul} (h : EngI W E T base c tv lv rs) (hb : Below W.heap.size W W') : EngI W' E T base c tv lv rs := by
  obtain ⟨bv, nv, en, ns, l0, h1, h2, h3, h4, h5⟩ := h.eng
  exact ⟨⟨bv, nv, en, ns, l0, Blk.below h1 hb (Blk.lt h1), ownsRow_below h2 hb fun g hg => (h2.lt g hg).2, h3, h4.beyond hb, h5⟩, Blk.below h.tab hb (Blk.lt h.tab), ownsRow_below h.own hb fun g hg => (h.own.lt g hg).2, ownsRow_below h.lst hb fun g hg => (h.lst.lt g hg).2, h.ok, h.len, h.cok, h.hT, h.hE, Nat.le_trans h.hb hb.size⟩
/-- behind a build -/
theorem engI_built {w w' : World} {E T base : Nat} {c : Cfg} {tv : Value} {rs : List Rul} {es : Array Value} (hE : Blk w E es 85) (hT : TabAt w T c tv) (hO : OwnR w base tv rs) (hP : BuildP w E c (.pointer (some ⟨T, 0, none⟩)) rs c.B c.D w')
    (ok : ∀ r ∈ rs, r.Wf ∧ r.may = true) (len : (rs.length : Int) ≤ c.max) (cok : c.ck = 0) (h1 : T < base) (h2 : E < base) (h3 : base ≤ w.heap.size) : ∃ lv, EngI w' E T base c tv lv rs ∧ (∀ g, lv.ownBlock = some g → w.heap.size ≤ g) ∧ Only w w' (fun k => k = E) := by
  obtain ⟨lv, bv, nv, en, ns, l0, p1, p2, p3, p4, p5, p6, p7, p8, p9⟩ := hP
  refine ⟨lv, ⟨⟨bv, nv, en, ns, l0, p1, ownsRow_mono p3 (Nat.zero_le _), p4, p5, p6, p7, p8⟩, Blk.only hT p9 (neTypes hT hE (by decide)), row_only hO p9 (fun k hk e => ?_), ownsRow_mono p2 (Nat.zero_le _), ok, len, cok, h1, h2, Nat.le_trans h3 p9.size⟩, fun g hg => (p2.lt g hg).1, p9⟩
  subst e
  exact row_ne hO hE (by decide) hk.symm
set_option maxHeartbeats 1000000 in
set_option maxRecDepth 100000 in
theorem done_no (E : Nat) (x : Int) (hx : x ≠ 0) (w : World) : Calls Try.prog 29 #[.pointer (some ⟨E, 0, none⟩), .int .i64 x] w fun e w' => e = .returned (.int .i64 x) ∧ w = w' := by
  have ht : (x == 0) = false := by simp [hx]
  go_enter Try.func29, Try.ntmps29
  go_wp2
  go_ret
  exact ⟨rfl, rfl⟩
set_option maxHeartbeats 1000000 in
set_option maxRecDepth 100000 in
theorem done_ok (E T : Nat) (c : Cfg) (rs : List Rul) (tv lv0 bv0 nv0 : Value) (en0 tb : Nat) (w : World) (hrs : ∀ r ∈ rs, r.Wf ∧ r.may = true) (hlen : (rs.length : Int) ≤ c.max) (hc : c.ck = 0)
    (hE : EngAt w E c (.pointer (some ⟨T, 0, none⟩)) lv0 bv0 nv0 en0) (hT : TabAt w T c tv) (hO : OwnR w tb tv rs) :
    Calls Try.prog 29 #[.pointer (some ⟨E, 0, none⟩), .int .i64 0] w fun e w' => e = .returned (.int .i64 0) ∧ BuildP w E c (.pointer (some ⟨T, 0, none⟩)) rs c.B c.D w' := by
  obtain ⟨f1, f2, f3, f4, f5, f6, f7⟩ := Cfg.facts hc
  have K := Sd.mk (build_any E T c rs tv lv0 bv0 nv0 en0 c.B c.D tb w hrs (by omega) f1 f2 f3 (by omega) f5 hE hT hO)
  clear f1 f2 f3 f4 f5 f6 f7 hE hT hO hrs hlen hc
  go_enter Try.func29, Try.ntmps29
  go_wp2_with fail
  refine K.out.mono ?_
  rintro e w1 ⟨rfl, hP⟩
  go_wp2
  go_ret
  exact ⟨rfl, hP⟩
set_option maxHeartbeats 1000000 in
set_option maxRecDepth 100000 in
theorem cutsNew_no (c : Cfg) (w : World) (h : c.ck = 110) : Calls Try.prog 10 #[.agg #[.int .i64 c.max, .int .i64 c.dflt, .int .i64 c.prune, .int .i64 c.grid, .int .i64 c.tuple, .int .i64 c.binth, .int .i64 c.depth]] w fun e w' => e = .returned (.tuple #[.pointer none, .int .i64 110]) ∧ Below w.heap.size w w' := by
  have K := Sd.mk (fun W => tabNew_no c W h)
  clear h
  go_enter Try.func10, Try.ntmps10
  go_wp2_with fail
  refine (K.out _).mono ?_
  rintro e w1 ⟨rfl, hb⟩
  have HB := Sd.mk (beyond (below_alloc (Below.refl _ _) _) hb)
  clear hb
  go_wp2
  refine bodyPost_ret (v := .tuple #[.pointer none, .int .i64 110]) (by simp [results, Try.results10, go_sem, *]) rfl ⟨rfl, HB.out⟩
set_option maxHeartbeats 1000000 in
set_option maxRecDepth 100000 in
theorem cutsNew_ok (c : Cfg) (w : World) (h : c.ck = 0) : Calls Try.prog 10 #[.agg #[.int .i64 c.max, .int .i64 c.dflt, .int .i64 c.prune, .int .i64 c.grid, .int .i64 c.tuple, .int .i64 c.binth, .int .i64 c.depth]] w fun e w' => ∃ E T base lv, e = .returned (.tuple #[.pointer (some ⟨E, 0, none⟩), .int .i64 0]) ∧ EngI w' E T base c (.slice none 0 0) lv [] ∧ w.heap.size ≤ E ∧ w.heap.size ≤ T ∧ (∀ g, lv.ownBlock = some g → w.heap.size ≤ g) ∧ Below w.heap.size w w' := by
  have K := Sd.mk (fun W => tabNew_ok c W h)
  have HC := Sd.mk h
  obtain ⟨f1, f2, f3, f4, f5, f6, f7⟩ := Cfg.facts h
  have HF := Sd.mk (And.intro f1 (And.intro f2 (And.intro f3 (And.intro f4 (And.intro f5 f6)))))
  clear h f1 f2 f3 f4 f5 f6 f7
  obtain ⟨M, hM⟩ : ∃ M, w.alloc (.cells #[.int .i64 c.max, .int .i64 c.dflt, .int .i64 c.prune, .int .i64 c.grid, .int .i64 c.tuple, .int .i64 c.binth, .int .i64 c.depth] 24) = M := ⟨_, rfl⟩
  have hbM : Below w.heap.size w M := by rw [← hM]; exact below_alloc (Below.refl _ _) _
  have hcM : Blk M w.heap.size #[.int .i64 c.max, .int .i64 c.dflt, .int .i64 c.prune, .int .i64 c.grid, .int .i64 c.tuple, .int .i64 c.binth, .int .i64 c.depth] 24 := by rw [← hM]; exact Blk.new _ _ _
  obtain ⟨c0, c1, c2, c3, c4, c5, c6⟩ := show M.cell? ⟨w.heap.size, 0, none⟩ = some (.int .i64 c.max) ∧ M.cell? ⟨w.heap.size, 1, none⟩ = some (.int .i64 c.dflt) ∧ M.cell? ⟨w.heap.size, 2, none⟩ = some (.int .i64 c.prune) ∧ M.cell? ⟨w.heap.size, 3, none⟩ = some (.int .i64 c.grid) ∧ M.cell? ⟨w.heap.size, 4, none⟩ = some (.int .i64 c.tuple) ∧ M.cell? ⟨w.heap.size, 5, none⟩ = some (.int .i64 c.binth) ∧ M.cell? ⟨w.heap.size, 6, none⟩ = some (.int .i64 c.depth) from ⟨hcM.cell (i := 0) rfl, hcM.cell (i := 1) rfl, hcM.cell (i := 2) rfl, hcM.cell (i := 3) rfl, hcM.cell (i := 4) rfl, hcM.cell (i := 5) rfl, hcM.cell (i := 6) rfl⟩
  have lM := hcM.lt
  have HCM := Sd.mk hcM
  have HBM := Sd.mk hbM
  clear hbM hcM
  go_enter Try.func10, Try.ntmps10
  go_wp2_with fail
  refine (K.out _).mono ?_
  rintro e w1 ⟨T, rfl, hTm, hT, hb⟩
  have hc1 := HCM.out.below hb HCM.out.lt
  clear c0 c1 c2 c3 c4 c5 c6 lM hM
  obtain ⟨c0, c1, c2, c3, c4, c5, c6⟩ := show w1.cell? ⟨w.heap.size, 0, none⟩ = some (.int .i64 c.max) ∧ w1.cell? ⟨w.heap.size, 1, none⟩ = some (.int .i64 c.dflt) ∧ w1.cell? ⟨w.heap.size, 2, none⟩ = some (.int .i64 c.prune) ∧ w1.cell? ⟨w.heap.size, 3, none⟩ = some (.int .i64 c.grid) ∧ w1.cell? ⟨w.heap.size, 4, none⟩ = some (.int .i64 c.tuple) ∧ w1.cell? ⟨w.heap.size, 5, none⟩ = some (.int .i64 c.binth) ∧ w1.cell? ⟨w.heap.size, 6, none⟩ = some (.int .i64 c.depth) from ⟨hc1.cell (i := 0) rfl, hc1.cell (i := 1) rfl, hc1.cell (i := 2) rfl, hc1.cell (i := 3) rfl, hc1.cell (i := 4) rfl, hc1.cell (i := 5) rfl, hc1.cell (i := 6) rfl⟩
  have HT := Sd.mk hT
  have HB := Sd.mk (beyond HBM.out hb)
  have HTM := Sd.mk (Nat.le_trans HBM.out.size hTm)
  clear hT hb hTm hc1
  go_upto_region 5 with fail
  obtain ⟨W2, hW2⟩ : ∃ W2, w1.alloc (.cells #[.int .i64 c.max, .int .i64 c.dflt, .int .i64 c.prune, .int .i64 c.grid, .int .i64 c.tuple, .int .i64 c.binth, .int .i64 c.depth, .pointer (some ⟨T, 0, none⟩), .slice none 0 0, .slice none 0 0, .slice none 0 0, .int .i64 0] 85) = W2 := ⟨_, rfl⟩
  have hE2 : EngAt W2 w1.heap.size c (.pointer (some ⟨T, 0, none⟩)) (.slice none 0 0) (.slice none 0 0) (.slice none 0 0) 0 := by rw [← hW2]; exact Blk.new _ _ _
  have hb2 : Below w1.heap.size w1 W2 := by rw [← hW2]; exact below_alloc (Below.refl _ _) _
  have hT2 : TabAt W2 T c (.slice none 0 0) := Blk.below HT.out hb2 (Blk.lt HT.out)
  have hs2 : w1.heap.size < W2.heap.size := Blk.lt hE2
  have hlT := Blk.lt HT.out
  have KD := Sd.mk (build_any w1.heap.size T c [] (.slice none 0 0) _ _ _ 0 c.B c.D (w1.heap.size + 1) W2 (by simp) (by simp) HF.out.1 HF.out.2.1 HF.out.2.2.1 (by have := HF.out.2.2.2.1; omega) HF.out.2.2.2.2.1 hE2 hT2 (World.ownsRow_nil _ _ _ _))
  have HFIN : Sd (∀ w', BuildP W2 w1.heap.size c (.pointer (some ⟨T, 0, none⟩)) [] c.B c.D w' → ∃ lv, EngI w' w1.heap.size T (w1.heap.size + 1) c (.slice none 0 0) lv [] ∧ (∀ g, lv.ownBlock = some g → W2.heap.size ≤ g) ∧ Only W2 w' (fun k => k = w1.heap.size)) := ⟨fun w' hP =>
    engI_built hE2 hT2 (World.ownsRow_nil _ _ _ _) hP (by simp) (by have := HF.out.2.2.2.2.2; simp; omega) HC.out (by omega) (by omega) (by omega)⟩
  have HB2 := Sd.mk (beyond HB.out hb2)
  have HSZ := Sd.mk HB.out.size
  try rw [hW2]
  clear hW2 hE2 hb2 hT2 hs2 hlT c0 c1 c2 c3 c4 c5 c6
  generalize w1.heap.size = E at *
  go_wp2_with fail
  refine KD.out.mono ?_
  rintro e w3 ⟨rfl, hP⟩
  have HP := Sd.mk (HFIN.out w3 hP)
  clear hP
  go_wp2
  obtain ⟨lv, p1, p2, p3⟩ := HP.out
  refine bodyPost_ret (v := .tuple #[.pointer (some ⟨E, 0, none⟩), .int .i64 0]) (by simp [results, Try.results10, go_sem, *]) rfl ⟨_, T, _, lv, rfl, p1, HSZ.out, HTM.out, fun g hg => Nat.le_trans HB2.out.size (p2 g hg), HB2.out.trans (p3.below w.heap.size HB2.out.size (fun k hk => by rw [hk]; exact HSZ.out))⟩
end Go.Proofs.Ytljliopmphaoeaa
