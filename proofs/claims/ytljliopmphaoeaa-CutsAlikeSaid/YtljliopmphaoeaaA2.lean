/- What an engine answers, and its size. -/
import Derived.Test.YtljliopmphaoeaaA1
namespace Go.Proofs.Ytljliopmphaoeaa
open Go Go.RowKit Go.Proofs.Ytljliopmphaoeaa.Q
/-- the first match -/
def matchC (rs : List Rul) (d : Int) (h : Hdr) : Array Value := match rs.find? (fun r => r.hit h) with
  | none => #[.bool false, .int .i64 0, .int .i64 d]
  | some r => #[.bool true, .int .i64 r.id, .int .i64 r.act]
theorem whole_has (h : Hdr) (hh : h.Wf) : Bx.whole.has h = true := by
  have h1 := hh.src; have h2 := hh.dst; have h3 := hh.sp; have h4 := hh.dp
  unfold Bx.whole Bx.has Run.has Spn.has Msk.has
  simp
  omega
theorem ver_range (rs : List Rul) (d : Int) (h : Hdr) (m : List Nat) (hm : m.find? (hitR rs h) = (List.range rs.length).find? (hitR rs h)) : verC rs d h m = matchC rs d h := by
  unfold verC matchC
  rw [hm]
  cases hf : rs.find? (fun r => r.hit h) with
  | none =>
    rw [List.find?_eq_none] at hf
    have : (List.range rs.length).find? (hitR rs h) = none := by
      rw [List.find?_eq_none]
      intro x hx
      have hx' := List.mem_range.1 hx
      rw [hitR_at _ _ _ hx']
      exact hf _ (List.getElem_mem _)
    rw [this]
  | some r =>
    rw [List.find?_eq_some_iff_getElem] at hf
    obtain ⟨h1, i, hi, rfl, h3⟩ := hf
    have : (List.range rs.length).find? (hitR rs h) = some i := by
      rw [List.find?_range_eq_some]
      refine ⟨by rw [hitR_at _ _ _ hi]; exact h1, List.mem_range.2 hi, fun j hj => ?_⟩
      rw [hitR_at _ _ _ (by omega)]
      simpa using h3 j hj
    rw [this]
    simp only []
    rw [List.getElem?_eq_getElem hi]
theorem rulesN_le (rs : List Rul) (h : Hdr) (m : List Nat) : rulesN rs h m ≤ m.length := by
  unfold rulesN
  cases hf : m.findIdx? (hitR rs h) with
  | none => exact Nat.le_refl _
  | some k =>
    rw [List.findIdx?_eq_some_iff_getElem] at hf
    exact hf.1
theorem rulesN_pos (rs : List Rul) (h : Hdr) (m : List Nat) (_ : Int) (hm : m.find? (hitR rs h) = (List.range rs.length).find? (hitR rs h)) (hv : (rs.find? (fun r => r.hit h)).isSome = true) : 1 ≤ rulesN rs h m := by
  unfold rulesN
  cases hf : m.findIdx? (hitR rs h) with
  | some k => simp
  | none =>
    exfalso
    rw [List.findIdx?_eq_none_iff] at hf
    have h1 : m.find? (hitR rs h) = none := by
      rw [List.find?_eq_none]
      intro x hx
      simp [hf x hx]
    rw [h1] at hm
    have h2 := hm.symm
    rw [List.find?_eq_none] at h2
    obtain ⟨r, hr⟩ := Option.isSome_iff_exists.1 hv
    rw [List.find?_eq_some_iff_getElem] at hr
    obtain ⟨g1, i, hi, rfl, g3⟩ := hr
    have := h2 i (List.mem_range.2 hi)
    rw [hitR_at _ _ _ hi] at this
    exact this g1
/-- an engine is asked: its answer, and the steps, which are the same in every world behind -/
theorem EngI.asks {W : World} {E T base : Nat} {c : Cfg} {tv lv : Value} {rs : List Rul} (k : EngI W E T base c tv lv rs) (h : Hdr) (hh : h.Wf) : ∃ e n : Nat, e ≤ c.D ∧ n ≤ rs.length ∧ (e < c.D → n ≤ c.B) ∧ ((rs.find? (fun r => r.hit h)).isSome = true → 1 ≤ n) ∧
    ∀ W', Below W.heap.size W W' → Calls Try.prog 12 #[.pointer (some ⟨E, 0, none⟩), .agg #[.int .u32 h.src, .int .u32 h.dst, .int .u16 h.sp, .int .u16 h.dp, .int .u8 h.pr]] W' fun x w' => x = .returned (.tuple #[.agg (matchC rs c.dflt h), .agg (stepC (e + 1) n e)]) ∧ Below W'.heap.size W' w' := by
  obtain ⟨bv, nv, en, ns, l0, h1, h2, h3, h4, h5, h6, h7⟩ := k.eng
  obtain ⟨f1, f2, f3, f4, f5, f6, f7⟩ := Cfg.facts k.cok
  have hlen := k.len
  have hbs : ∀ x ∈ boxesOf rs, x.ck = 0 := fun x hx => by
    unfold boxesOf at hx
    obtain ⟨r, hr, rfl⟩ := List.mem_map.1 hx
    exact (rulBox_good r (k.ok r hr).1 (k.ok r hr).2).ck
  obtain ⟨e, m, p1, p2, p3, p4, p5, p6⟩ := h4.path hbs h (whole_has h hh)
  have hfind : m.find? (hitR rs h) = (List.range rs.length).find? (hitR rs h) := by
    rw [hitR_box rs k.ok h, p4, h3, inside_find (boxesOf rs) hbs Bx.whole whole_good.ck h (whole_has h hh)]
  have hmem : ∀ j ∈ m, j < rs.length := fun j hj => by
    have := p6 j hj
    rw [h3] at this
    exact List.mem_range.1 (insideI_sub _ _ _ j this)
  have hml : m.length ≤ rs.length := by
    have := insideI_len (boxesOf rs) Bx.whole (List.range rs.length)
    rw [List.length_range, ← h3] at this
    omega
  refine ⟨e, rulesN rs h m, p2, Nat.le_trans (rulesN_le rs h m) hml, fun he => ?_, fun hv => rulesN_pos rs h m c.dflt hfind hv, fun W' hb => ?_⟩
  · rcases p3 with p3 | p3
    · exact Nat.le_trans (rulesN_le rs h m) p3
    · omega
  · have kk := k.below hb
    rw [← ver_range rs c.dflt h m hfind]
    exact ask_path E c rs _ lv bv nv en ns h e m W' hh k.ok hmem (by omega) (by omega) (Blk.below h1 hb (Blk.lt h1)) kk.lst (ownsRow_below h2 hb fun g hg => (h2.lt g hg).2) (p1.beyond hb)
set_option maxHeartbeats 2000000 in
set_option maxRecDepth 100000 in
theorem stats_walk (E : Nat) (c : Cfg) (tv lv bv nv : Value) (en : Nat) (ns : List Nd) (w : World) (hE : EngAt w E c tv lv bv nv en) (hN : OwnD w 0 nv ns) (hns : 0 < ns.length) :
    Calls Try.prog 14 #[.pointer (some ⟨E, 0, none⟩)] w fun x w' => x = .returned (.agg #[.int .i64 ns.length, .int .i64 en, .int .i64 0, .int .i64 0]) ∧ Below w.heap.size w w' := by
  obtain ⟨g, cp, rfl⟩ := hN.open hns
  obtain ⟨M, hM⟩ : ∃ M, w.alloc (.cells #[.int .i64 0, .int .i64 0, .int .i64 0, .int .i64 0] 43) = M := ⟨_, rfl⟩
  have hb : Below w.heap.size w M := by rw [← hM]; exact below_alloc (Below.refl _ _) _
  have hz : Blk M w.heap.size #[.int .i64 0, .int .i64 0, .int .i64 0, .int .i64 0] 43 := by rw [← hM]; exact Blk.new _ _ _
  have hE1 := Blk.below hE hb (Blk.lt hE)
  have c10 := Blk.cell hE1 (i := 10) rfl
  have c11 := Blk.cell hE1 (i := 11) rfl
  have za := hz.at
  have zf := hz.frozen
  have zl := hz.lt
  have HZ := Sd.mk hz
  have HB := Sd.mk hb
  clear hE hE1 hN hz hb
  go_enter Try.func14, Try.ntmps14
  go_upto_region 3 with fail
  try rw [hM]
  clear hM
  go_region
  clear c10 c11 za zf zl
  obtain ⟨V', hV⟩ : ∃ V', ((((M.setCell ⟨w.heap.size, 0, none⟩ (.int .i64 ns.length)).setCell ⟨w.heap.size, 1, none⟩ (.int .i64 en)).setCell ⟨w.heap.size, 2, none⟩ (.int .i64 0)).setCell ⟨w.heap.size, 3, none⟩ (.int .i64 0)).drew = V' := ⟨_, rfl⟩
  have k1 := (((HZ.out.set 0 (.int .i64 ns.length)).set 1 (.int .i64 en)).set 2 (.int .i64 0)).set 3 (.int .i64 0)
  simp only [List.setIfInBounds_toArray, List.set_cons_zero, List.set_cons_succ] at k1
  have k2 := k1.drew
  rw [hV] at k2
  have HO : Sd (Below w.heap.size w V') := ⟨by
    rw [← hV]
    refine Below.drew ?_
    iterate 4 refine below_set ?_ (Nat.le_refl _)
    exact HB.out⟩
  rw [hV]
  clear hV k1
  have x0 := k2.cell (i := 0) rfl
  have x1 := k2.cell (i := 1) rfl
  have x2 := k2.cell (i := 2) rfl
  have x3 := k2.cell (i := 3) rfl
  clear k2
  go_wp2
  refine bodyPost_ret (v := .agg #[.int .i64 ns.length, .int .i64 en, .int .i64 0, .int .i64 0]) (by simp [results, Try.results14, go_sem, *]) rfl ⟨rfl, HO.out⟩
theorem EngI.stats {W : World} {E T base : Nat} {c : Cfg} {tv lv : Value} {rs : List Rul} (k : EngI W E T base c tv lv rs) : ∃ N en : Nat, 1 ≤ N ∧ N + 1 ≤ 2 ^ (c.D + 1) ∧ en ≤ N * rs.length ∧
    ∀ W', Below W.heap.size W W' → Calls Try.prog 14 #[.pointer (some ⟨E, 0, none⟩)] W' fun x w' => x = .returned (.agg #[.int .i64 N, .int .i64 en, .int .i64 0, .int .i64 0]) ∧ Below W'.heap.size W' w' := by
  obtain ⟨bv, nv, en, ns, l0, h1, h2, h3, h4, h5, h6, h7⟩ := k.eng
  exact ⟨ns.length, en, h5, h6, h7, fun W' hb => stats_walk E c _ lv bv nv en ns W' (Blk.below h1 hb (Blk.lt h1)) (ownsRow_below h2 hb fun g hg => (h2.lt g hg).2) (by omega)⟩
end Go.Proofs.Ytljliopmphaoeaa
