/- Changes of an engine. -/
import Derived.Test.YtljliopmphaoeaaA2
import Derived.Deep.RegionHeld3
namespace Go.Proofs.Ytljliopmphaoeaa
open Go Go.RowKit Go.Proofs.Ytljliopmphaoeaa.Q
/-- what a change leaves -/
def ChgOut (w0 : World) (E T base : Nat) (c : Cfg) (tv : Value) (rs' : List Rul) (w2 : World) : Prop :=
  ∃ tv' lv', EngI w2 E T base c tv' lv' rs' ∧ (tv'.ownBlock = tv.ownBlock ∨ ∃ g, w0.heap.size ≤ g ∧ tv'.ownBlock = some g) ∧ (∀ g, lv'.ownBlock = some g → w0.heap.size ≤ g) ∧ Only w0 w2 (fun k => k = E ∨ k = T ∨ tv.ownBlock = some k)
theorem ChgOut.before {w w0 w2 : World} {E T base : Nat} {c : Cfg} {tv : Value} {rs' : List Rul} (h : ChgOut w0 E T base c tv rs' w2) (hb : Below w.heap.size w w0) : ChgOut w E T base c tv rs' w2 := by
  obtain ⟨tv', lv', h1, h2, h3, h4⟩ := h
  refine ⟨tv', lv', h1, ?_, fun g hg => Nat.le_trans hb.size (h3 g hg), (below_only hb _).trans h4 (fun _ _ h => h)⟩
  rcases h2 with h2 | ⟨g, h2, h5⟩
  · exact .inl h2
  · exact .inr ⟨g, Nat.le_trans hb.size h2, h5⟩
theorem EngI.cell7 {W : World} {E T base : Nat} {c : Cfg} {tv lv : Value} {rs : List Rul} (k : EngI W E T base c tv lv rs) : W.cell? ⟨E, 7, none⟩ = some (.pointer (some ⟨T, 0, none⟩)) ∧ E < W.heap.size := by
  obtain ⟨bv, nv, en, ns, l0, h1, _⟩ := k.eng
  exact ⟨Blk.cell h1 (i := 7) rfl, Blk.lt h1⟩
/-- done, behind a change of the table -/
theorem eng_changed {w0 w1 : World} {E T base : Nat} {c : Cfg} {tv lv : Value} {rs rs' : List Rul} (k : EngI w0 E T base c tv lv rs) (ht : TabOut w0 T base c tv rs' w1) (ok' : ∀ r ∈ rs', r.Wf ∧ r.may = true) (len' : (rs'.length : Int) ≤ c.max) :
    w1.cell? ⟨E, 7, none⟩ = some (.pointer (some ⟨T, 0, none⟩)) ∧ Calls Try.prog 29 #[.pointer (some ⟨E, 0, none⟩), .int .i64 0] w1 fun e w2 => e = .returned (.int .i64 0) ∧ ChgOut w0 E T base c tv rs' w2 ∧ Only w1 w2 (fun k => k = E) ∧ w2.cell? ⟨E, 7, none⟩ = some (.pointer (some ⟨T, 0, none⟩)) := by
  obtain ⟨tv', h1, h2, h3, h4⟩ := ht
  obtain ⟨bv, nv, en, ns, l0, e1, _⟩ := k.eng
  have hET : E ≠ T := neTypes e1 k.tab (by decide)
  have e2 := Blk.only e1 h4 (fun h => by
    rcases h with h | h
    · exact hET h
    · exact row_ne k.own e1 (by decide) h.symm)
  refine ⟨Blk.cell e2 (i := 7) rfl, (done_ok E T c rs' tv' lv bv nv en base w1 ok' len' k.cok e2 h1 h2).mono fun e w2 ⟨p1, p2⟩ => ⟨p1, ?_⟩⟩
  obtain ⟨lv', q1, q2, q3⟩ := engI_built e2 h1 h2 p2 ok' len' k.cok k.hT k.hE (Nat.le_trans k.hb h4.size)
  exact ⟨⟨tv', lv', q1, h3, fun g hg => Nat.le_trans h4.size (q2 g hg), (h4.mono (fun j _ h => .inr h)).trans q3 (fun j _ h => .inl h)⟩, q3, q1.cell7.1⟩
theorem insI_ok {c : Cfg} {rs : List Rul} {p : Int} {r : Rul} (h : insI c rs p r = 0) : r.may = true ∧ (∃ k : Nat, p = k ∧ k ≤ rs.length) ∧ (rs.length : Int) < c.max := by
  unfold insI at h
  rcases takesI_cases rs r with ⟨h1, h2⟩ | ⟨h1, h2, h3⟩ | ⟨h1, h2, h3⟩
  · rw [if_pos (by rw [h2]; exact h1)] at h; rw [h2] at h; exact absurd h h1
  · rw [if_pos (by rw [h3]; decide)] at h; rw [h3] at h; cases h
  · rw [if_neg (by rw [h3]; decide)] at h
    by_cases hb : btw p 0 rs.length = false
    · rw [if_pos hb] at h; cases h
    · rw [if_neg hb] at h
      by_cases hm : c.max ≤ rs.length
      · rw [if_pos hm] at h; cases h
      · unfold btw at hb
        simp only [Bool.and_eq_false_iff, decide_eq_false_iff_not, not_or, Decidable.not_not] at hb
        refine ⟨by unfold Rul.may; simp [h1], ⟨p.toNat, by omega, by omega⟩, by omega⟩
set_option maxHeartbeats 2000000 in
set_option maxRecDepth 100000 in
theorem engInsert_no {E T base : Nat} {c : Cfg} {tv lv : Value} {rs : List Rul} {w : World} (k : EngI w E T base c tv lv rs) (p : Int) (r : Rul) (hw : r.Wf) (hn : insI c rs p r ≠ 0) :
    Calls Try.prog 17 #[.pointer (some ⟨E, 0, none⟩), .int .i64 p, .agg #[.int .i64 r.id, .int .u32 r.src.a, .int .i64 r.src.n, .int .u32 r.dst.a, .int .i64 r.dst.n, .int .u16 r.sp.lo, .int .u16 r.sp.hi, .int .u16 r.dp.lo, .int .u16 r.dp.hi, .int .u8 r.pr.v, .int .u8 r.pr.c, .int .i64 r.act]] w fun e w' => e = .returned (.int .i64 (insI c rs p r)) ∧ Below w.heap.size w w' := by
  obtain ⟨M, hM⟩ : ∃ M, w.alloc (.cells #[.int .i64 r.id, .int .u32 r.src.a, .int .i64 r.src.n, .int .u32 r.dst.a, .int .i64 r.dst.n, .int .u16 r.sp.lo, .int .u16 r.sp.hi, .int .u16 r.dp.lo, .int .u16 r.dp.hi, .int .u8 r.pr.v, .int .u8 r.pr.c, .int .i64 r.act] 60) = M := ⟨_, rfl⟩
  have hb : Below w.heap.size w M := by rw [← hM]; exact below_alloc (Below.refl _ _) _
  have hr : Blk M w.heap.size #[.int .i64 r.id, .int .u32 r.src.a, .int .i64 r.src.n, .int .u32 r.dst.a, .int .i64 r.dst.n, .int .u16 r.sp.lo, .int .u16 r.sp.hi, .int .u16 r.dp.lo, .int .u16 r.dp.hi, .int .u8 r.pr.v, .int .u8 r.pr.c, .int .i64 r.act] 60 := by rw [← hM]; exact Blk.new _ _ _
  have kM := k.below hb
  obtain ⟨f1, f2, f3, f4, f5, f6, f7⟩ := Cfg.facts k.cok
  have hlen := k.len
  have KS : ∀ W, Below M.heap.size M W → (W.cell? ⟨E, 7, none⟩ = some (.pointer (some ⟨T, 0, none⟩)) ∧ W.cell? ⟨w.heap.size, 0, none⟩ = some (.int .i64 r.id) ∧ W.cell? ⟨w.heap.size, 1, none⟩ = some (.int .u32 r.src.a) ∧ W.cell? ⟨w.heap.size, 2, none⟩ = some (.int .i64 r.src.n) ∧ W.cell? ⟨w.heap.size, 3, none⟩ = some (.int .u32 r.dst.a) ∧ W.cell? ⟨w.heap.size, 4, none⟩ = some (.int .i64 r.dst.n) ∧ W.cell? ⟨w.heap.size, 5, none⟩ = some (.int .u16 r.sp.lo) ∧ W.cell? ⟨w.heap.size, 6, none⟩ = some (.int .u16 r.sp.hi) ∧ W.cell? ⟨w.heap.size, 7, none⟩ = some (.int .u16 r.dp.lo) ∧ W.cell? ⟨w.heap.size, 8, none⟩ = some (.int .u16 r.dp.hi) ∧ W.cell? ⟨w.heap.size, 9, none⟩ = some (.int .u8 r.pr.v) ∧ W.cell? ⟨w.heap.size, 10, none⟩ = some (.int .u8 r.pr.c) ∧ W.cell? ⟨w.heap.size, 11, none⟩ = some (.int .i64 r.act)) := fun W h => by
    have h1 := hr.below h hr.lt
    exact ⟨(h.cell (p := ⟨E, 7, none⟩) kM.cell7.2).trans kM.cell7.1, h1.cell (i := 0) rfl, h1.cell (i := 1) rfl, h1.cell (i := 2) rfl, h1.cell (i := 3) rfl, h1.cell (i := 4) rfl, h1.cell (i := 5) rfl, h1.cell (i := 6) rfl, h1.cell (i := 7) rfl, h1.cell (i := 8) rfl, h1.cell (i := 9) rfl, h1.cell (i := 10) rfl, h1.cell (i := 11) rfl⟩
  have HI : Sd (Calls Try.prog 31 #[.pointer (some ⟨T, 0, none⟩), .int .i64 p, .agg #[.int .i64 r.id, .int .u32 r.src.a, .int .i64 r.src.n, .int .u32 r.dst.a, .int .i64 r.dst.n, .int .u16 r.sp.lo, .int .u16 r.sp.hi, .int .u16 r.dp.lo, .int .u16 r.dp.hi, .int .u8 r.pr.v, .int .u8 r.pr.c, .int .i64 r.act]] M.drew fun e w' => e = .returned (.int .i64 (insI c rs p r)) ∧ (w'.cell? ⟨E, 7, none⟩ = some (.pointer (some ⟨T, 0, none⟩)) ∧ w'.cell? ⟨w.heap.size, 0, none⟩ = some (.int .i64 r.id) ∧ w'.cell? ⟨w.heap.size, 1, none⟩ = some (.int .u32 r.src.a) ∧ w'.cell? ⟨w.heap.size, 2, none⟩ = some (.int .i64 r.src.n) ∧ w'.cell? ⟨w.heap.size, 3, none⟩ = some (.int .u32 r.dst.a) ∧ w'.cell? ⟨w.heap.size, 4, none⟩ = some (.int .i64 r.dst.n) ∧ w'.cell? ⟨w.heap.size, 5, none⟩ = some (.int .u16 r.sp.lo) ∧ w'.cell? ⟨w.heap.size, 6, none⟩ = some (.int .u16 r.sp.hi) ∧ w'.cell? ⟨w.heap.size, 7, none⟩ = some (.int .u16 r.dp.lo) ∧ w'.cell? ⟨w.heap.size, 8, none⟩ = some (.int .u16 r.dp.hi) ∧ w'.cell? ⟨w.heap.size, 9, none⟩ = some (.int .u8 r.pr.v) ∧ w'.cell? ⟨w.heap.size, 10, none⟩ = some (.int .u8 r.pr.c) ∧ w'.cell? ⟨w.heap.size, 11, none⟩ = some (.int .i64 r.act)) ∧ Below w.heap.size w w') := ⟨by
    have kD := kM.below (Below.refl M.heap.size M).drew
    refine (tabInsert_no T c rs base tv p r M.drew hw (by omega) kD.tab kD.own hn).mono fun e w' ⟨h1, h2⟩ => ⟨h1, KS w' ((Below.refl M.heap.size M).drew.trans h2), beyond hb ((Below.refl M.heap.size M).drew.trans h2)⟩⟩
  have HS0 := Sd.mk (KS M.drew (Below.refl M.heap.size M).drew)
  have HD := Sd.mk (fun W => done_no E (insI c rs p r) hn W)
  have HM := Sd.mk hM
  generalize insI c rs p r = code at *
  clear k kM hb hr KS hM hn f1 f2 f3 f4 f5 f6 f7 hlen
  go_enter Try.func17, Try.ntmps17
  go_upto_region 3 with fail
  rw [HM.out]
  go_region_held3 (fun W => W.cell? ⟨E, 7, none⟩ = some (.pointer (some ⟨T, 0, none⟩)) ∧ W.cell? ⟨w.heap.size, 0, none⟩ = some (.int .i64 r.id) ∧ W.cell? ⟨w.heap.size, 1, none⟩ = some (.int .u32 r.src.a) ∧ W.cell? ⟨w.heap.size, 2, none⟩ = some (.int .i64 r.src.n) ∧ W.cell? ⟨w.heap.size, 3, none⟩ = some (.int .u32 r.dst.a) ∧ W.cell? ⟨w.heap.size, 4, none⟩ = some (.int .i64 r.dst.n) ∧ W.cell? ⟨w.heap.size, 5, none⟩ = some (.int .u16 r.sp.lo) ∧ W.cell? ⟨w.heap.size, 6, none⟩ = some (.int .u16 r.sp.hi) ∧ W.cell? ⟨w.heap.size, 7, none⟩ = some (.int .u16 r.dp.lo) ∧ W.cell? ⟨w.heap.size, 8, none⟩ = some (.int .u16 r.dp.hi) ∧ W.cell? ⟨w.heap.size, 9, none⟩ = some (.int .u8 r.pr.v) ∧ W.cell? ⟨w.heap.size, 10, none⟩ = some (.int .u8 r.pr.c) ∧ W.cell? ⟨w.heap.size, 11, none⟩ = some (.int .i64 r.act))
    (first | (with_reducible assumption) | (with_reducible exact HS0.out))
    (first | (go_at_call 31; with_reducible refine HI.out.mono ?_; rintro e w1 ⟨rfl, hs1, hb1⟩) | (go_at_call 29; with_reducible refine (HD.out _).mono ?_; rintro e w2 ⟨rfl, rfl⟩))
  all_goals
    go_wp2_with fail
    go_ret
    exact ⟨rfl, hb1⟩
set_option maxHeartbeats 2000000 in
set_option maxRecDepth 100000 in
theorem engInsert_ok {E T base : Nat} {c : Cfg} {tv lv : Value} {rs : List Rul} {w : World} (k : EngI w E T base c tv lv rs) (p : Nat) (r : Rul) (hw : r.Wf) (hn : insI c rs p r = 0) :
    Calls Try.prog 17 #[.pointer (some ⟨E, 0, none⟩), .int .i64 p, .agg #[.int .i64 r.id, .int .u32 r.src.a, .int .i64 r.src.n, .int .u32 r.dst.a, .int .i64 r.dst.n, .int .u16 r.sp.lo, .int .u16 r.sp.hi, .int .u16 r.dp.lo, .int .u16 r.dp.hi, .int .u8 r.pr.v, .int .u8 r.pr.c, .int .i64 r.act]] w fun e w' => e = .returned (.int .i64 0) ∧ ChgOut w E T base c tv (rs.take p ++ r :: rs.drop p) w' := by
  obtain ⟨M, hM⟩ : ∃ M, w.alloc (.cells #[.int .i64 r.id, .int .u32 r.src.a, .int .i64 r.src.n, .int .u32 r.dst.a, .int .i64 r.dst.n, .int .u16 r.sp.lo, .int .u16 r.sp.hi, .int .u16 r.dp.lo, .int .u16 r.dp.hi, .int .u8 r.pr.v, .int .u8 r.pr.c, .int .i64 r.act] 60) = M := ⟨_, rfl⟩
  have hb : Below w.heap.size w M := by rw [← hM]; exact below_alloc (Below.refl _ _) _
  have hr : Blk M w.heap.size #[.int .i64 r.id, .int .u32 r.src.a, .int .i64 r.src.n, .int .u32 r.dst.a, .int .i64 r.dst.n, .int .u16 r.sp.lo, .int .u16 r.sp.hi, .int .u16 r.dp.lo, .int .u16 r.dp.hi, .int .u8 r.pr.v, .int .u8 r.pr.c, .int .i64 r.act] 60 := by rw [← hM]; exact Blk.new _ _ _
  have hdr : Below M.heap.size M M.drew := (Below.refl M.heap.size M).drew
  have kD := (k.below hb).below hdr
  obtain ⟨f1, f2, f3, f4, f5, f6, f7⟩ := Cfg.facts k.cok
  obtain ⟨g1, ⟨pk, g2, g3⟩, g4⟩ := insI_ok hn
  obtain rfl : p = pk := by omega
  have hok : ∀ x ∈ rs.take p ++ r :: rs.drop p, x.Wf ∧ x.may = true := fun x hx => by
    rcases List.mem_append.1 hx with hx | hx
    · exact k.ok x (List.mem_of_mem_take hx)
    · rcases List.mem_cons.1 hx with rfl | hx
      · exact ⟨hw, g1⟩
      · exact k.ok x (List.mem_of_mem_drop hx)
  have hln : ((rs.take p ++ r :: rs.drop p).length : Int) ≤ c.max := by
    rw [List.length_append, List.length_cons, List.length_take, List.length_drop]; omega
  have hrD : Blk M.drew w.heap.size #[.int .i64 r.id, .int .u32 r.src.a, .int .i64 r.src.n, .int .u32 r.dst.a, .int .i64 r.dst.n, .int .u16 r.sp.lo, .int .u16 r.sp.hi, .int .u16 r.dp.lo, .int .u16 r.dp.hi, .int .u8 r.pr.v, .int .u8 r.pr.c, .int .i64 r.act] 60 := hr.below hdr hr.lt
  have KS : ∀ W, W.cell? ⟨E, 7, none⟩ = some (.pointer (some ⟨T, 0, none⟩)) → Blk W w.heap.size #[.int .i64 r.id, .int .u32 r.src.a, .int .i64 r.src.n, .int .u32 r.dst.a, .int .i64 r.dst.n, .int .u16 r.sp.lo, .int .u16 r.sp.hi, .int .u16 r.dp.lo, .int .u16 r.dp.hi, .int .u8 r.pr.v, .int .u8 r.pr.c, .int .i64 r.act] 60 → (W.cell? ⟨E, 7, none⟩ = some (.pointer (some ⟨T, 0, none⟩)) ∧ W.cell? ⟨w.heap.size, 0, none⟩ = some (.int .i64 r.id) ∧ W.cell? ⟨w.heap.size, 1, none⟩ = some (.int .u32 r.src.a) ∧ W.cell? ⟨w.heap.size, 2, none⟩ = some (.int .i64 r.src.n) ∧ W.cell? ⟨w.heap.size, 3, none⟩ = some (.int .u32 r.dst.a) ∧ W.cell? ⟨w.heap.size, 4, none⟩ = some (.int .i64 r.dst.n) ∧ W.cell? ⟨w.heap.size, 5, none⟩ = some (.int .u16 r.sp.lo) ∧ W.cell? ⟨w.heap.size, 6, none⟩ = some (.int .u16 r.sp.hi) ∧ W.cell? ⟨w.heap.size, 7, none⟩ = some (.int .u16 r.dp.lo) ∧ W.cell? ⟨w.heap.size, 8, none⟩ = some (.int .u16 r.dp.hi) ∧ W.cell? ⟨w.heap.size, 9, none⟩ = some (.int .u8 r.pr.v) ∧ W.cell? ⟨w.heap.size, 10, none⟩ = some (.int .u8 r.pr.c) ∧ W.cell? ⟨w.heap.size, 11, none⟩ = some (.int .i64 r.act)) := fun W h h1 => ⟨h, h1.cell (i := 0) rfl, h1.cell (i := 1) rfl, h1.cell (i := 2) rfl, h1.cell (i := 3) rfl, h1.cell (i := 4) rfl, h1.cell (i := 5) rfl, h1.cell (i := 6) rfl, h1.cell (i := 7) rfl, h1.cell (i := 8) rfl, h1.cell (i := 9) rfl, h1.cell (i := 10) rfl, h1.cell (i := 11) rfl⟩
  have hnB : ∀ j, tv.ownBlock = some j → j < w.heap.size := fun j hj => (k.own.lt j hj).2
  have hrT : ∀ w', TabOut M.drew T base c tv (rs.take p ++ r :: rs.drop p) w' → Blk w' w.heap.size #[.int .i64 r.id, .int .u32 r.src.a, .int .i64 r.src.n, .int .u32 r.dst.a, .int .i64 r.dst.n, .int .u16 r.sp.lo, .int .u16 r.sp.hi, .int .u16 r.dp.lo, .int .u16 r.dp.hi, .int .u8 r.pr.v, .int .u8 r.pr.c, .int .i64 r.act] 60 := fun w' ⟨_, _, _, _, h4⟩ => Blk.only hrD h4 (fun h => by
    rcases h with h | h
    · have := Blk.lt k.tab; omega
    · have := hnB _ h; omega)
  have HI : Sd (Calls Try.prog 31 #[.pointer (some ⟨T, 0, none⟩), .int .i64 p, .agg #[.int .i64 r.id, .int .u32 r.src.a, .int .i64 r.src.n, .int .u32 r.dst.a, .int .i64 r.dst.n, .int .u16 r.sp.lo, .int .u16 r.sp.hi, .int .u16 r.dp.lo, .int .u16 r.dp.hi, .int .u8 r.pr.v, .int .u8 r.pr.c, .int .i64 r.act]] M.drew fun e w' => e = .returned (.int .i64 0) ∧ (w'.cell? ⟨E, 7, none⟩ = some (.pointer (some ⟨T, 0, none⟩)) ∧ w'.cell? ⟨w.heap.size, 0, none⟩ = some (.int .i64 r.id) ∧ w'.cell? ⟨w.heap.size, 1, none⟩ = some (.int .u32 r.src.a) ∧ w'.cell? ⟨w.heap.size, 2, none⟩ = some (.int .i64 r.src.n) ∧ w'.cell? ⟨w.heap.size, 3, none⟩ = some (.int .u32 r.dst.a) ∧ w'.cell? ⟨w.heap.size, 4, none⟩ = some (.int .i64 r.dst.n) ∧ w'.cell? ⟨w.heap.size, 5, none⟩ = some (.int .u16 r.sp.lo) ∧ w'.cell? ⟨w.heap.size, 6, none⟩ = some (.int .u16 r.sp.hi) ∧ w'.cell? ⟨w.heap.size, 7, none⟩ = some (.int .u16 r.dp.lo) ∧ w'.cell? ⟨w.heap.size, 8, none⟩ = some (.int .u16 r.dp.hi) ∧ w'.cell? ⟨w.heap.size, 9, none⟩ = some (.int .u8 r.pr.v) ∧ w'.cell? ⟨w.heap.size, 10, none⟩ = some (.int .u8 r.pr.c) ∧ w'.cell? ⟨w.heap.size, 11, none⟩ = some (.int .i64 r.act)) ∧ TabOut M.drew T base c tv (rs.take p ++ r :: rs.drop p) w') := ⟨
    (tabInsert_ok T c rs base tv p r M.drew hw (by omega) kD.tab kD.own kD.hT kD.hb g3 hn).mono fun e w' ⟨h1, h2⟩ => ⟨h1, KS w' (eng_changed kD h2 hok hln).1 (hrT w' h2), h2⟩⟩
  have HD : Sd (∀ w', TabOut M.drew T base c tv (rs.take p ++ r :: rs.drop p) w' → Calls Try.prog 29 #[.pointer (some ⟨E, 0, none⟩), .int .i64 0] w' fun e w2 => e = .returned (.int .i64 0) ∧ (w2.cell? ⟨E, 7, none⟩ = some (.pointer (some ⟨T, 0, none⟩)) ∧ w2.cell? ⟨w.heap.size, 0, none⟩ = some (.int .i64 r.id) ∧ w2.cell? ⟨w.heap.size, 1, none⟩ = some (.int .u32 r.src.a) ∧ w2.cell? ⟨w.heap.size, 2, none⟩ = some (.int .i64 r.src.n) ∧ w2.cell? ⟨w.heap.size, 3, none⟩ = some (.int .u32 r.dst.a) ∧ w2.cell? ⟨w.heap.size, 4, none⟩ = some (.int .i64 r.dst.n) ∧ w2.cell? ⟨w.heap.size, 5, none⟩ = some (.int .u16 r.sp.lo) ∧ w2.cell? ⟨w.heap.size, 6, none⟩ = some (.int .u16 r.sp.hi) ∧ w2.cell? ⟨w.heap.size, 7, none⟩ = some (.int .u16 r.dp.lo) ∧ w2.cell? ⟨w.heap.size, 8, none⟩ = some (.int .u16 r.dp.hi) ∧ w2.cell? ⟨w.heap.size, 9, none⟩ = some (.int .u8 r.pr.v) ∧ w2.cell? ⟨w.heap.size, 10, none⟩ = some (.int .u8 r.pr.c) ∧ w2.cell? ⟨w.heap.size, 11, none⟩ = some (.int .i64 r.act)) ∧ ChgOut w E T base c tv (rs.take p ++ r :: rs.drop p) w2) := ⟨fun w' h =>
    (eng_changed kD h hok hln).2.mono fun e w2 ⟨h1, h2, h3, h4⟩ => ⟨h1, KS w2 h4 (Blk.only (hrT w' h) h3 (fun e => by have := k.cell7.2; omega)), h2.before (beyond hb hdr)⟩⟩
  have HS0 := Sd.mk (KS M.drew kD.cell7.1 hrD)
  have HM := Sd.mk hM
  clear k kD hb hr KS hM hn f1 f2 f3 f4 f5 f6 f7 hok hln hrD hnB hrT hdr g1 g2 g3 g4
  go_enter Try.func17, Try.ntmps17
  go_upto_region 3 with fail
  rw [HM.out]
  go_region_held3 (fun W => W.cell? ⟨E, 7, none⟩ = some (.pointer (some ⟨T, 0, none⟩)) ∧ W.cell? ⟨w.heap.size, 0, none⟩ = some (.int .i64 r.id) ∧ W.cell? ⟨w.heap.size, 1, none⟩ = some (.int .u32 r.src.a) ∧ W.cell? ⟨w.heap.size, 2, none⟩ = some (.int .i64 r.src.n) ∧ W.cell? ⟨w.heap.size, 3, none⟩ = some (.int .u32 r.dst.a) ∧ W.cell? ⟨w.heap.size, 4, none⟩ = some (.int .i64 r.dst.n) ∧ W.cell? ⟨w.heap.size, 5, none⟩ = some (.int .u16 r.sp.lo) ∧ W.cell? ⟨w.heap.size, 6, none⟩ = some (.int .u16 r.sp.hi) ∧ W.cell? ⟨w.heap.size, 7, none⟩ = some (.int .u16 r.dp.lo) ∧ W.cell? ⟨w.heap.size, 8, none⟩ = some (.int .u16 r.dp.hi) ∧ W.cell? ⟨w.heap.size, 9, none⟩ = some (.int .u8 r.pr.v) ∧ W.cell? ⟨w.heap.size, 10, none⟩ = some (.int .u8 r.pr.c) ∧ W.cell? ⟨w.heap.size, 11, none⟩ = some (.int .i64 r.act))
    (first | (with_reducible assumption) | (with_reducible exact HS0.out))
    (first | (go_at_call 31; with_reducible refine HI.out.mono ?_; rintro e w1 ⟨rfl, hs1, ht1⟩) | (go_at_call 29; with_reducible refine (HD.out _ ht1).mono ?_; rintro e w2 ⟨rfl, hs2, hfin⟩))
  all_goals
    go_wp2_with fail
    go_ret
    exact ⟨rfl, hfin⟩
end Go.Proofs.Ytljliopmphaoeaa
