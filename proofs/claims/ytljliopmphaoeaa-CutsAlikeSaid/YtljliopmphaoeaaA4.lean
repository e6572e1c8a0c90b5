/- Delete and Set of an engine; no engine. -/
import Derived.Test.YtljliopmphaoeaaA3
namespace Go.Proofs.Ytljliopmphaoeaa
open Go Go.RowKit Go.Proofs.Ytljliopmphaoeaa.Q
set_option maxHeartbeats 1000000 in
set_option maxRecDepth 100000 in
theorem engDelete_no {E T base : Nat} {c : Cfg} {tv lv : Value} {rs : List Rul} {w : World} (k : EngI w E T base c tv lv rs) (id : Int) (hf : findI rs id = -1) :
    Calls Try.prog 18 #[.pointer (some ⟨E, 0, none⟩), .int .i64 id] w fun e w' => e = .returned (.int .i64 114) ∧ w = w' := by
  obtain ⟨f1, f2, f3, f4, f5, f6, f7⟩ := Cfg.facts k.cok
  have hlen := k.len
  have HI := Sd.mk (tabDelete_none T c rs base tv id w hf (by omega) k.tab k.own)
  have HD := Sd.mk (done_no E 114 (by decide) w)
  have c7 := k.cell7.1
  have l7 := k.cell7.2
  clear k hf f1 f2 f3 f4 f5 f6 f7 hlen
  go_enter Try.func18, Try.ntmps18
  go_wp2_with fail
  refine HI.out.mono ?_
  rintro e w1 ⟨rfl, rfl⟩
  go_wp2_with fail
  refine HD.out.mono ?_
  rintro e w2 ⟨rfl, rfl⟩
  go_wp2
  go_ret
  exact ⟨rfl, rfl⟩
set_option maxHeartbeats 1000000 in
set_option maxRecDepth 100000 in
theorem engDelete_ok {E T base : Nat} {c : Cfg} {tv lv : Value} {rs : List Rul} {w : World} (k : EngI w E T base c tv lv rs) (id : Int) (j : Nat) (hj : j < rs.length) (hf : findI rs id = j) :
    Calls Try.prog 18 #[.pointer (some ⟨E, 0, none⟩), .int .i64 id] w fun e w' => e = .returned (.int .i64 0) ∧ ChgOut w E T base c tv (rs.take j ++ rs.drop (j + 1)) w' := by
  obtain ⟨f1, f2, f3, f4, f5, f6, f7⟩ := Cfg.facts k.cok
  have hlen := k.len
  have hok : ∀ x ∈ rs.take j ++ rs.drop (j + 1), x.Wf ∧ x.may = true := fun x hx => by
    rcases List.mem_append.1 hx with hx | hx
    · exact k.ok x (List.mem_of_mem_take hx)
    · exact k.ok x (List.mem_of_mem_drop hx)
  have hln : ((rs.take j ++ rs.drop (j + 1)).length : Int) ≤ c.max := by
    rw [List.length_append, List.length_take, List.length_drop]; omega
  have HI := Sd.mk (tabDelete_some T c rs base tv id j w hj hf (by omega) k.tab k.own k.hT)
  have HD := Sd.mk (fun w' (h : TabOut w T base c tv (rs.take j ++ rs.drop (j + 1)) w') => (eng_changed k h hok hln).2)
  have c7 := k.cell7.1
  have l7 := k.cell7.2
  clear k hf f1 f2 f3 f4 f5 f6 f7 hlen hok hln
  go_enter Try.func18, Try.ntmps18
  go_wp2_with fail
  refine HI.out.mono ?_
  rintro e w1 ⟨rfl, ht⟩
  go_wp2_with fail
  refine (HD.out _ ht).mono ?_
  rintro e w2 ⟨rfl, hfin, _⟩
  go_wp2
  go_ret
  exact ⟨rfl, hfin⟩
theorem setI_ok {c : Cfg} {ls : List Rul} (h : setI c ls = 0) (hc : 1 ≤ c.max) : (∀ r ∈ ls, r.may = true) ∧ (ls.length : Int) ≤ c.max := by
  refine ⟨fun r hr => ?_, ?_⟩
  · obtain ⟨j, hj, rfl⟩ := List.mem_iff_getElem.1 hr
    have h1 := setI_all c ls h j hj
    rw [stepI_at c ls j hj] at h1
    by_cases ht : takesI (ls.take j) ls[j] ≠ 0
    · rw [if_pos ht] at h1; exact absurd h1 ht
    · unfold takesI at ht
      by_cases hk : ls[j].ck.1 ≠ 0
      · rw [if_pos hk] at ht; exact absurd hk ht
      · unfold Rul.may; simp only [decide_eq_true_eq]; omega
  · cases hn : ls.length with
    | zero => simp; omega
    | succ n =>
      have h1 := setI_all c ls h n (by omega)
      rw [stepI_at c ls n (by omega)] at h1
      by_cases ht : takesI (ls.take n) ls[n] ≠ 0
      · rw [if_pos ht] at h1; exact absurd h1 ht
      · rw [if_neg ht] at h1
        by_cases hm : c.max ≤ n
        · rw [if_pos hm] at h1; cases h1
        · push_cast; omega
set_option maxHeartbeats 1000000 in
set_option maxRecDepth 100000 in
theorem engSet_no {E T base : Nat} {c : Cfg} {tv lv : Value} {rs : List Rul} {w : World} (k : EngI w E T base c tv lv rs) (ls : List Rul) (A : Option Addr) (cap : Nat) (hw : ∀ r ∈ ls, r.Wf) (hl : ls.length ≤ 100000) (hcap : ls.length ≤ cap) (hR : RulsAt w A ls) (hA : 0 < ls.length → ∀ a, A = some a → a.block ≠ T) (hn : setI c ls ≠ 0) :
    Calls Try.prog 15 #[.pointer (some ⟨E, 0, none⟩), .slice A ls.length cap] w fun e w' => e = .returned (.int .i64 (setI c ls)) ∧ Below w.heap.size w w' := by
  have HI := Sd.mk (tabSet_any T base c tv ls A cap w hw hl hcap k.tab hR hA k.hb)
  have HD := Sd.mk (done_no E (setI c ls) hn)
  have c7 := k.cell7.1
  have l7 := k.cell7.2
  have HN := Sd.mk hn
  generalize setI c ls = code at *
  clear k hn hR
  go_enter Try.func15, Try.ntmps15
  go_wp2_with fail
  refine HI.out.mono ?_
  rintro e w1 ⟨rfl, hb, _⟩
  have HB := Sd.mk (hb HN.out)
  clear hb
  go_wp2_with fail
  refine (HD.out _).mono ?_
  rintro e w2 ⟨rfl, rfl⟩
  go_wp2
  go_ret
  exact ⟨rfl, HB.out⟩
set_option maxHeartbeats 1000000 in
set_option maxRecDepth 100000 in
theorem engSet_ok {E T base : Nat} {c : Cfg} {tv lv : Value} {rs : List Rul} {w : World} (k : EngI w E T base c tv lv rs) (ls : List Rul) (A : Option Addr) (cap : Nat) (hw : ∀ r ∈ ls, r.Wf) (hl : ls.length ≤ 100000) (hcap : ls.length ≤ cap) (hR : RulsAt w A ls) (hA : 0 < ls.length → ∀ a, A = some a → a.block ≠ T) (hn : setI c ls = 0) :
    Calls Try.prog 15 #[.pointer (some ⟨E, 0, none⟩), .slice A ls.length cap] w fun e w' => e = .returned (.int .i64 0) ∧ ChgOut w E T base c tv ls w' := by
  obtain ⟨f1, f2, f3, f4, f5, f6, f7⟩ := Cfg.facts k.cok
  obtain ⟨s1, s2⟩ := setI_ok hn f6
  have K := tabSet_any T base c tv ls A cap w hw hl hcap k.tab hR hA k.hb
  rw [hn] at K
  have HI := Sd.mk K
  have HD := Sd.mk (fun w' (h : TabOut w T base c tv ls w') => (eng_changed k h (fun r hr => ⟨hw r hr, s1 r hr⟩) s2).2)
  have c7 := k.cell7.1
  have l7 := k.cell7.2
  clear k hR K hn f1 f2 f3 f4 f5 f6 f7 s1 s2
  go_enter Try.func15, Try.ntmps15
  go_wp2_with fail
  refine HI.out.mono ?_
  rintro e w1 ⟨rfl, _, ht⟩
  have HT := Sd.mk (ht (by trivial))
  clear ht
  go_wp2_with fail
  refine (HD.out _ HT.out).mono ?_
  rintro e w2 ⟨rfl, hfin, _⟩
  go_wp2
  go_ret
  exact ⟨rfl, hfin⟩
/-! ### no engine -/
set_option maxHeartbeats 1000000 in
set_option maxRecDepth 100000 in
theorem nilInsert (p : Int) (r : Rul) (w : World) : Calls Try.prog 17 #[.pointer none, .int .i64 p, .agg #[.int .i64 r.id, .int .u32 r.src.a, .int .i64 r.src.n, .int .u32 r.dst.a, .int .i64 r.dst.n, .int .u16 r.sp.lo, .int .u16 r.sp.hi, .int .u16 r.dp.lo, .int .u16 r.dp.hi, .int .u8 r.pr.v, .int .u8 r.pr.c, .int .i64 r.act]] w fun e w' => e = .returned (.int .i64 3) ∧ Below w.heap.size w w' := by
  go_enter Try.func17, Try.ntmps17
  go_wp2
  go_ret
  exact ⟨rfl, below_alloc (Below.refl _ _) _⟩
set_option maxHeartbeats 1000000 in
set_option maxRecDepth 100000 in
theorem nilDelete (id : Int) (w : World) : Calls Try.prog 18 #[.pointer none, .int .i64 id] w fun e w' => e = .returned (.int .i64 3) ∧ w = w' := by
  go_enter Try.func18, Try.ntmps18
  go_wp2
  go_ret
  exact ⟨rfl, rfl⟩
set_option maxHeartbeats 1000000 in
set_option maxRecDepth 100000 in
theorem nilSet (v : Value) (w : World) : Calls Try.prog 15 #[.pointer none, v] w fun e w' => e = .returned (.int .i64 3) ∧ w = w' := by
  go_enter Try.func15, Try.ntmps15
  go_wp2
  go_ret
  exact ⟨rfl, rfl⟩
set_option maxHeartbeats 1000000 in
set_option maxRecDepth 100000 in
theorem nilStats (w : World) : Calls Try.prog 14 #[.pointer none] w fun e w' => e = .returned (.agg #[.int .i64 0, .int .i64 0, .int .i64 0, .int .i64 0]) ∧ Below w.heap.size w w' := by
  go_enter Try.func14, Try.ntmps14
  go_wp2
  refine bodyPost_ret (v := .agg #[.int .i64 0, .int .i64 0, .int .i64 0, .int .i64 0]) (by simp [results, Try.results14, go_sem, *]) rfl ⟨rfl, ?_⟩
  exact below_alloc (Below.refl _ _) _
set_option maxHeartbeats 1000000 in
set_option maxRecDepth 100000 in
theorem nilAsk (h : Hdr) (w : World) : Calls Try.prog 12 #[.pointer none, .agg #[.int .u32 h.src, .int .u32 h.dst, .int .u16 h.sp, .int .u16 h.dp, .int .u8 h.pr]] w fun e w' => e = .returned (.tuple #[.agg #[.bool false, .int .i64 0, .int .i64 0], .agg #[.int .i64 0, .int .i64 0, .int .i64 0, .int .i64 0, .int .i64 0]]) ∧ Below w.heap.size w w' := by
  go_enter Try.func12, Try.ntmps12
  go_wp2
  refine bodyPost_ret (v := .tuple #[.agg #[.bool false, .int .i64 0, .int .i64 0], .agg #[.int .i64 0, .int .i64 0, .int .i64 0, .int .i64 0, .int .i64 0]]) (by simp [results, Try.results12, go_sem, *]) rfl ⟨rfl, ?_⟩
  exact below_alloc (below_alloc (below_alloc (Below.refl _ _) _) _) _
end Go.Proofs.Ytljliopmphaoeaa
