/- The scanner reads a token. -/
import Derived.StillTailTactics
import Derived.Test.YtghlfpeifdikkaaDoorLexR1
namespace Go.Proofs.YtghlfpeifdikkaaDoor
open Go.RowKit Go.Proofs.YtghlfpeifdikkaaDoor.Lex

set_option maxHeartbeats 8000000 in
set_option maxRecDepth 100000 in
theorem lab1 (w : World) (B : Nat) (s : ByteArray) (t : St) (told : Value) (n : Nat) (r : Option Tk × St) (hs : s.size ≤ 140737488351232) (hl : t.line ≤ 140737488351234) : ∀ (m j : Nat) (V : World) (_ : s.size - j = m) (_ : RdAt w B s t told n j V) (_ : Blk V (w.heap.size + 1) zero5 38) (_ : t.begin' ≤ j) (_ : j ≤ s.size) (_ : r = rdAt s t (blanks s j)) (u1 u3 u5 u6 u7 u8 u9 u10 u11 u12 u13 u14 u15 u16 u17 u18 u19 u20 u21 u22 u23 u24 u25 u26 u27 u28 u29 u30 u31 u32 u33 u34 u35 u36 u37 u38 u39 u40 u41 u42 u43 u44 u45 u46 u47 u48 u49 u50 u51 u52 u53 u54 u55 u56 u57 u58 u59 u60 u61 u62 u63 u64 u65 u66 u67 u68 u69 u70 u71 u72 u73 u74 u75 u76 u77 u78 u79 u80 u81 u82 u83 u84 u85 u86 u87 u88 u89 u90 u91 u92 u93 u94 u95 u96 u97 u98 u99 u100 u101 u102 u103 u104 u105 u106 u107 u108 u109 u110 u111 u112 u113 u114 u115 u116 u117 u118 u119 u120 u121 u122 u123 u124 u125 u126 u127 u128 u129 u130 u131 u132 u133 u134 u135 u136 u137 u138 u139 u140 u141 u142 u143 u144 u145 u146 u147 u148 u149 u150 u151 u152 u153 u154 u155 u156 u157 u158 u159 u160 u161 u162 u163 u164 u165 u166 u167 u168 u169 : Value),
    rdTail1.wp Tryd.prog (ExitTo (FromLabel Tryd.prog rdBody (RdQ w B s told n r)) (RdQ w B s told n r)) { tmps := #[.pointer (some ⟨B, 0, none⟩), u1, .pointer (some ⟨w.heap.size, 0, none⟩), u3, .pointer (some ⟨w.heap.size + 1, 0, none⟩), u5, u6, u7, u8, u9, u10, u11, u12, u13, u14, u15, u16, u17, u18, u19, u20, u21, u22, u23, u24, u25, u26, u27, u28, u29, u30, u31, u32, u33, u34, u35, u36, u37, u38, u39, u40, u41, u42, u43, u44, u45, u46, u47, u48, u49, u50, u51, u52, u53, u54, u55, u56, u57, u58, u59, u60, u61, u62, u63, u64, u65, u66, u67, u68, u69, u70, u71, u72, u73, u74, u75, u76, u77, u78, u79, u80, u81, u82, u83, u84, u85, u86, u87, u88, u89, u90, u91, u92, u93, u94, u95, u96, u97, u98, u99, u100, u101, u102, u103, u104, u105, u106, u107, u108, u109, u110, u111, u112, u113, u114, u115, u116, u117, u118, u119, u120, u121, u122, u123, u124, u125, u126, u127, u128, u129, u130, u131, u132, u133, u134, u135, u136, u137, u138, u139, u140, u141, u142, u143, u144, u145, u146, u147, u148, u149, u150, u151, u152, u153, u154, u155, u156, u157, u158, u159, u160, u161, u162, u163, u164, u165, u166, u167, u168, u169], defers := [] } V := by
  intro m
  induction m with
  | zero =>
    intro j V hm h hT hb hj he u1 u3 u5 u6 u7 u8 u9 u10 u11 u12 u13 u14 u15 u16 u17 u18 u19 u20 u21 u22 u23 u24 u25 u26 u27 u28 u29 u30 u31 u32 u33 u34 u35 u36 u37 u38 u39 u40 u41 u42 u43 u44 u45 u46 u47 u48 u49 u50 u51 u52 u53 u54 u55 u56 u57 u58 u59 u60 u61 u62 u63 u64 u65 u66 u67 u68 u69 u70 u71 u72 u73 u74 u75 u76 u77 u78 u79 u80 u81 u82 u83 u84 u85 u86 u87 u88 u89 u90 u91 u92 u93 u94 u95 u96 u97 u98 u99 u100 u101 u102 u103 u104 u105 u106 u107 u108 u109 u110 u111 u112 u113 u114 u115 u116 u117 u118 u119 u120 u121 u122 u123 u124 u125 u126 u127 u128 u129 u130 u131 u132 u133 u134 u135 u136 u137 u138 u139 u140 u141 u142 u143 u144 u145 u146 u147 u148 u149 u150 u151 u152 u153 u154 u155 u156 u157 u158 u159 u160 u161 u162 u163 u164 u165 u166 u167 u168 u169
    have hbl : blanks s j = j := blanks_stop (by omega)
    have HH0 := Sd.mk h
    have HR : Sd (r = Lex.ends s { t with at' := j }) := ⟨by rw [he, hbl, rdAt, if_pos (.inl (by omega))]⟩
    have hblk := h.sc.blk
    unfold scanC at hblk
    have c0 := hblk.cell (i := 0) rfl
    have c1 := hblk.cell (i := 1) rfl
    have es : ((j : Int) == s.size) = true := by simp; omega
    have Hm := Sd.mk hm
    clear h hT hblk he hbl hm
    refine wp_tail rfl ?_
    go_wp2
    go_region
    go_wp2
    go_step3
    change FromLabel Tryd.prog rdBody (RdQ w B s told n r) 0 _ _
    exact lab0 w B s t told n r hs hl j _ HH0.out.drew (by omega) hb HR.out _ _ _ _ _ _ _ _ _ _ _ _ _ _ _ _ _ _ _ _ _ _ _ _ _ _ _ _ _ _ _ _ _ _ _ _ _ _ _ _ _ _ _ _ _ _ _ _ _ _ _ _ _ _ _ _ _ _ _ _ _ _ _ _ _ _ _ _ _ _ _ _ _ _ _ _ _ _ _ _ _ _ _ _ _ _ _ _ _ _ _ _ _ _ _ _ _ _ _ _ _ _ _ _ _ _ _ _ _ _ _ _ _ _ _ _ _ _ _ _ _ _ _ _ _ _ _ _ _ _ _ _ _ _ _ _ _ _ _ _ _ _ _ _ _ _ _ _ _ _ _ _ _ _ _ _ _ _ _ _ _ _ _ _ _ _ _ _
  | succ m ih =>
    intro j V hm h hT hb hj he u1 u3 u5 u6 u7 u8 u9 u10 u11 u12 u13 u14 u15 u16 u17 u18 u19 u20 u21 u22 u23 u24 u25 u26 u27 u28 u29 u30 u31 u32 u33 u34 u35 u36 u37 u38 u39 u40 u41 u42 u43 u44 u45 u46 u47 u48 u49 u50 u51 u52 u53 u54 u55 u56 u57 u58 u59 u60 u61 u62 u63 u64 u65 u66 u67 u68 u69 u70 u71 u72 u73 u74 u75 u76 u77 u78 u79 u80 u81 u82 u83 u84 u85 u86 u87 u88 u89 u90 u91 u92 u93 u94 u95 u96 u97 u98 u99 u100 u101 u102 u103 u104 u105 u106 u107 u108 u109 u110 u111 u112 u113 u114 u115 u116 u117 u118 u119 u120 u121 u122 u123 u124 u125 u126 u127 u128 u129 u130 u131 u132 u133 u134 u135 u136 u137 u138 u139 u140 u141 u142 u143 u144 u145 u146 u147 u148 u149 u150 u151 u152 u153 u154 u155 u156 u157 u158 u159 u160 u161 u162 u163 u164 u165 u166 u167 u168 u169
    have HH0 := Sd.mk h
    have HT := Sd.mk hT
    have hlt : j < s.size := by omega
    have hblk := h.sc.blk
    unfold scanC at hblk
    have c0 := hblk.cell (i := 0) rfl
    have c1 := hblk.cell (i := 1) rfl
    have c2 := hblk.cell (i := 2) rfl
    have c3 := hblk.cell (i := 3) rfl
    have cf := hblk.frozen
    have cl := hblk.lt
    have a0 := hT.cell (i := 0) rfl
    have a1 := hT.cell (i := 1) rfl
    have a2 := hT.cell (i := 2) rfl
    have a3 := hT.cell (i := 3) rfl
    have a4 := hT.cell (i := 4) rfl
    have af := hT.frozen
    have al := hT.lt
    have hne := hT.ne hblk (by decide)
    have es : ((j : Int) == s.size) = false := by simp; omega
    have bt := byte_test s j hlt
    have HB := Sd.mk bt
    have Hm := Sd.mk hm
    have IH := Sd.mk ih
    have HE := Sd.mk he
    clear hm h hT he hblk ih bt
    by_cases hbk : blk (at_ s j) = true
    · have hbl : blanks s j = blanks s (j + 1) := blanks_go hlt hbk
      have HR : Sd (r = rdAt s t (blanks s (j + 1))) := ⟨by rw [← hbl]; exact HE.out⟩
      have hor := (blk_iff _).1 hbk
      clear hbl hbk HE
      rcases hor with h1 | h1 | h1
      · have e1 := HB.out 32 true (by rw [h1]; rfl)
        clear h1
        refine wp_tail rfl ?_
        go_wp2
        go_region
        go_wp2
        go_region
        go_wp2
        go_step3
        change FromLabel Tryd.prog rdBody (RdQ w B s told n r) 1 _ _
        exact from1 (IH.out (j + 1) _ (by have := Hm.out; omega) (HH0.out.drew.drew.goto (j + 1)) (HT.out.drew.drew.other (a := ⟨B, 1, none⟩) _ hne) (by omega) (by omega) HR.out _ _ _ _ _ _ _ _ _ _ _ _ _ _ _ _ _ _ _ _ _ _ _ _ _ _ _ _ _ _ _ _ _ _ _ _ _ _ _ _ _ _ _ _ _ _ _ _ _ _ _ _ _ _ _ _ _ _ _ _ _ _ _ _ _ _ _ _ _ _ _ _ _ _ _ _ _ _ _ _ _ _ _ _ _ _ _ _ _ _ _ _ _ _ _ _ _ _ _ _ _ _ _ _ _ _ _ _ _ _ _ _ _ _ _ _ _ _ _ _ _ _ _ _ _ _ _ _ _ _ _ _ _ _ _ _ _ _ _ _ _ _ _ _ _ _ _ _ _ _ _ _ _ _ _ _ _ _ _ _ _ _ _ _ _ _ _)
      · have e0 := HB.out 32 false (by rw [h1]; rfl)
        have e1 := HB.out 9 true (by rw [h1]; rfl)
        clear h1
        refine wp_tail rfl ?_
        go_wp2
        go_region
        go_wp2
        go_region
        go_wp2
        go_step3
        change FromLabel Tryd.prog rdBody (RdQ w B s told n r) 1 _ _
        exact from1 (IH.out (j + 1) _ (by have := Hm.out; omega) (HH0.out.drew.drew.goto (j + 1)) (HT.out.drew.drew.other (a := ⟨B, 1, none⟩) _ hne) (by omega) (by omega) HR.out _ _ _ _ _ _ _ _ _ _ _ _ _ _ _ _ _ _ _ _ _ _ _ _ _ _ _ _ _ _ _ _ _ _ _ _ _ _ _ _ _ _ _ _ _ _ _ _ _ _ _ _ _ _ _ _ _ _ _ _ _ _ _ _ _ _ _ _ _ _ _ _ _ _ _ _ _ _ _ _ _ _ _ _ _ _ _ _ _ _ _ _ _ _ _ _ _ _ _ _ _ _ _ _ _ _ _ _ _ _ _ _ _ _ _ _ _ _ _ _ _ _ _ _ _ _ _ _ _ _ _ _ _ _ _ _ _ _ _ _ _ _ _ _ _ _ _ _ _ _ _ _ _ _ _ _ _ _ _ _ _ _ _ _ _ _ _)
      · have e0 := HB.out 32 false (by rw [h1]; rfl)
        have e1 := HB.out 9 false (by rw [h1]; rfl)
        have e2 := HB.out 13 true (by rw [h1]; rfl)
        clear h1
        refine wp_tail rfl ?_
        go_wp2
        go_region
        go_wp2
        go_region
        go_wp2
        go_step3
        change FromLabel Tryd.prog rdBody (RdQ w B s told n r) 1 _ _
        exact from1 (IH.out (j + 1) _ (by have := Hm.out; omega) (HH0.out.drew.drew.goto (j + 1)) (HT.out.drew.drew.other (a := ⟨B, 1, none⟩) _ hne) (by omega) (by omega) HR.out _ _ _ _ _ _ _ _ _ _ _ _ _ _ _ _ _ _ _ _ _ _ _ _ _ _ _ _ _ _ _ _ _ _ _ _ _ _ _ _ _ _ _ _ _ _ _ _ _ _ _ _ _ _ _ _ _ _ _ _ _ _ _ _ _ _ _ _ _ _ _ _ _ _ _ _ _ _ _ _ _ _ _ _ _ _ _ _ _ _ _ _ _ _ _ _ _ _ _ _ _ _ _ _ _ _ _ _ _ _ _ _ _ _ _ _ _ _ _ _ _ _ _ _ _ _ _ _ _ _ _ _ _ _ _ _ _ _ _ _ _ _ _ _ _ _ _ _ _ _ _ _ _ _ _ _ _ _ _ _ _ _ _ _ _ _ _)
    · have hbl : blanks s j = j := blanks_stop (by simp [hbk])
      have hno : ¬ (at_ s j = 32 ∨ at_ s j = 9 ∨ at_ s j = 13) := fun h => hbk ((blk_iff _).2 h)
      have e32 := HB.out 32 false (by simp; omega)
      have e9 := HB.out 9 false (by simp; omega)
      have e13 := HB.out 13 false (by simp; omega)
      by_cases h35 : at_ s j = 35
      · have e35 := HB.out 35 true (by rw [h35]; rfl)
        have HR : Sd (r = Lex.ends s { t with at' := eol s j }) := ⟨by rw [HE.out, hbl, rdAt, if_neg (by omega), if_pos h35]⟩
        clear hbl hbk hno h35 HE
        refine wp_tail rfl ?_
        go_wp2
        go_region
        go_wp2
        go_region
        go_wp2
        go_step3
        change FromLabel Tryd.prog rdBody (RdQ w B s told n r) 2 _ _
        exact lab2 w B s t told n r hs hl (s.size - j) j _ rfl HH0.out.drew.drew (by omega) hb HR.out _ _ _ _ _ _ _ _ _ _ _ _ _ _ _ _ _ _ _ _ _ _ _ _ _ _ _ _ _ _ _ _ _ _ _ _ _ _ _ _ _ _ _ _ _ _ _ _ _ _ _ _ _ _ _ _ _ _ _ _ _ _ _ _ _ _ _ _ _ _ _ _ _ _ _ _ _ _ _ _ _ _ _ _ _ _ _ _ _ _ _ _ _ _ _ _ _ _ _ _ _ _ _ _ _ _ _ _ _ _ _ _ _ _ _ _ _ _ _ _ _ _ _ _ _ _ _ _ _ _ _ _ _ _ _ _ _ _ _ _ _ _ _ _ _ _ _ _ _ _ _ _ _ _ _ _ _ _ _ _ _ _ _ _ _ _ _ _
      · have e35 := HB.out 35 false (by simp; omega)
        by_cases h10 : at_ s j = 10
        · have e10 := HB.out 10 true (by rw [h10]; rfl)
          have HR : Sd (r = Lex.ends s { t with at' := j }) := ⟨by rw [HE.out, hbl, rdAt, if_pos (.inr h10)]⟩
          clear hbl hbk hno h35 h10 HE
          refine wp_tail rfl ?_
          go_wp2
          go_region
          go_wp2
          go_region
          go_wp2
          go_step3
          change FromLabel Tryd.prog rdBody (RdQ w B s told n r) 0 _ _
          exact lab0 w B s t told n r hs hl j _ HH0.out.drew.drew (by omega) hb HR.out _ _ _ _ _ _ _ _ _ _ _ _ _ _ _ _ _ _ _ _ _ _ _ _ _ _ _ _ _ _ _ _ _ _ _ _ _ _ _ _ _ _ _ _ _ _ _ _ _ _ _ _ _ _ _ _ _ _ _ _ _ _ _ _ _ _ _ _ _ _ _ _ _ _ _ _ _ _ _ _ _ _ _ _ _ _ _ _ _ _ _ _ _ _ _ _ _ _ _ _ _ _ _ _ _ _ _ _ _ _ _ _ _ _ _ _ _ _ _ _ _ _ _ _ _ _ _ _ _ _ _ _ _ _ _ _ _ _ _ _ _ _ _ _ _ _ _ _ _ _ _ _ _ _ _ _ _ _ _ _ _ _ _ _ _ _ _ _
        · have HR : Sd (r = rdAt s t j) := ⟨by rw [HE.out, hbl]⟩
          exact labT w B s t told n r hs j V HH0.out HT.out hb hlt (by simpa using hbk) h35 h10 HR.out _ _ _ _ _ _ _ _ _ _ _ _ _ _ _ _ _ _ _ _ _ _ _ _ _ _ _ _ _ _ _ _ _ _ _ _ _ _ _ _ _ _ _ _ _ _ _ _ _ _ _ _ _ _ _ _ _ _ _ _ _ _ _ _ _ _ _ _ _ _ _ _ _ _ _ _ _ _ _ _ _ _ _ _ _ _ _ _ _ _ _ _ _ _ _ _ _ _ _ _ _ _ _ _ _ _ _ _ _ _ _ _ _ _ _ _ _ _ _ _ _ _ _ _ _ _ _ _ _ _ _ _ _ _ _ _ _ _ _ _ _ _ _ _ _ _ _ _ _ _ _ _ _ _ _ _ _ _ _ _ _ _ _ _ _ _ _
set_option maxHeartbeats 4000000 in
set_option maxRecDepth 100000 in
theorem read_any (w : World) (B : Nat) (s : ByteArray) (t : St) (told : Value) (n : Nat) (p : Value) (hs : s.size ≤ 140737488351232) (hS : Scan w B s t told n p) (h : t.wrong.code ≠ 0 ∨ Ok s t) (hl : t.line ≤ 140737488351234) :
    Calls Tryd.prog 24 #[.pointer (some ⟨B, 0, none⟩)] w (RdPost w B s told n (rd s t)) := by
  have hlt := hS.blk.lt
  rcases hS.wr with ⟨hw, hp⟩ | ⟨hw, F, hp, hBF, hF⟩
  · subst hp
    have h : Ok s t := h.resolve_left (by simp [hw])
    have HR := Sd.mk (rd_at s t hw (Nat.le_trans h.e (eol_ge s t.begin' h.n)))
    have HS := Sd.mk hS
    have hin := Nat.le_trans h.e (eol_ge s t.begin' h.n)
    have hb := h.b
    have hblk := hS.blk
    unfold scanC at hblk
    have c6 := hblk.cell (i := 6) rfl
    clear hS hblk h
    have HA : Sd (RdAt w B s t told n t.at' ((w.alloc (.cells zero5 38)).alloc (.cells zero5 38))) := ⟨⟨(HS.out.alloc _).alloc _, (two_new w w.heap.size rfl zero5 zero5 _ _).1, ((Only.refl w (· = B)).alloc _).alloc _, hlt⟩⟩
    have HT := Sd.mk (two_new w w.heap.size rfl zero5 zero5 38 38).2
    go_enter Tryd.func24, Tryd.ntmps24
    go_wp2
    refine wp_scope_labels ?_
    change Code.wp _ _ (ExitTo (FromLabel Tryd.prog rdBody (RdQ w B s told n (rd s t))) (RdQ w B s told n (rd s t))) _ _
    go_wp2
    go_step3
    rename_i hK
    refine hK _ _ ?_
    exact lab1 w B s t told n (rd s t) hs hl (s.size - t.at') t.at' _ rfl HA.out HT.out hb hin HR.out _ _ _ _ _ _ _ _ _ _ _ _ _ _ _ _ _ _ _ _ _ _ _ _ _ _ _ _ _ _ _ _ _ _ _ _ _ _ _ _ _ _ _ _ _ _ _ _ _ _ _ _ _ _ _ _ _ _ _ _ _ _ _ _ _ _ _ _ _ _ _ _ _ _ _ _ _ _ _ _ _ _ _ _ _ _ _ _ _ _ _ _ _ _ _ _ _ _ _ _ _ _ _ _ _ _ _ _ _ _ _ _ _ _ _ _ _ _ _ _ _ _ _ _ _ _ _ _ _ _ _ _ _ _ _ _ _ _ _ _ _ _ _ _ _ _ _ _ _ _ _ _ _ _ _ _ _ _ _ _ _ _ _ _ _ _ _
  · subst hp
    have HR : Sd (rd s t = (none, t)) := ⟨by unfold rd; rw [if_pos hw]⟩
    have HS := Sd.mk hS
    have hblk := hS.blk
    unfold scanC at hblk
    have c6 := hblk.cell (i := 6) rfl
    clear hS hblk h hF
    go_enter Tryd.func24, Tryd.ntmps24
    go_wp2
    refine wp_scope_labels ?_
    change Code.wp _ _ (ExitTo (FromLabel Tryd.prog rdBody (RdQ w B s told n (rd s t))) (RdQ w B s told n (rd s t))) _ _
    go_wp2
    rw [exitTo_ret]
    unfold RdQ RdPost
    refine bodyPost_ret (v := .tuple #[.agg #[.int .i64 0, .string ⟨#[]⟩, .int .u32 0, .int .i64 0, .int .i64 0], .bool false]) ?_ rfl ⟨⟨noTk, false, rfl, by rw [HR.out]; rfl⟩, ⟨_, by rw [HR.out]; exact (HS.out.alloc _).alloc _⟩, ((Only.refl w (· = B)).alloc _).alloc _⟩
    simp [results, Tryd.results24, go_sem]
end Go.Proofs.YtghlfpeifdikkaaDoor
