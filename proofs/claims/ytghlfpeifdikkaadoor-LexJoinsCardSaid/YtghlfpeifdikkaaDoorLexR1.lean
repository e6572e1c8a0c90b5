/- The scanner's read: its labels: blanks; and the whole. -/
import Derived.StillTailTactics
import Derived.Test.YtghlfpeifdikkaaDoorLexR3
namespace Go.Proofs.YtghlfpeifdikkaaDoor
open Go.RowKit Go.Proofs.YtghlfpeifdikkaaDoor.Lex

/-- a step from the first byte on that is no blank -/
def rdAt (s : ByteArray) (t : St) (i : Nat) : Option Tk × St :=
  if i = s.size ∨ at_ s i = 10 then Lex.ends s { t with at' := i }
  else if at_ s i = 35 then Lex.ends s { t with at' := eol s i }
  else if kd (at_ s i) = 0 then (none, { t with at' := i, wrong := ⟨90, t.line, i - t.begin' + 1⟩ })
  else (chkTk ⟨kd (at_ s i), s.extract i (rowEnd s (kd (at_ s i)) i), 0, t.line, i - t.begin' + 1⟩, chkSt { t with at' := rowEnd s (kd (at_ s i)) i } ⟨kd (at_ s i), s.extract i (rowEnd s (kd (at_ s i)) i), 0, t.line, i - t.begin' + 1⟩)
def blanks (s : ByteArray) (i : Nat) : Nat := skip (fun j => blk (at_ s j)) s.size i
theorem blanks_go {s : ByteArray} {i : Nat} (h : i < s.size) (hb : blk (at_ s i) = true) : blanks s i = blanks s (i + 1) := skip_go (p := fun j => blk (at_ s j)) h hb
theorem blanks_stop {s : ByteArray} {i : Nat} (h : ¬ (i < s.size ∧ blk (at_ s i) = true)) : blanks s i = i := skip_stop (p := fun j => blk (at_ s j)) h
theorem badT_eq (s : ByteArray) (k i j : Nat) (hij : i < j) (hj : j ≤ s.size) : badT k (s.extract i j) = bad s k i j := by
  have hz : (s.extract i j).size = j - i := by rw [ByteArray.size_extract]; omega
  unfold badT bad dvT
  rw [hz, dval_shift s i j 0 (j - i) hj (by omega), at_extract s i j 0 hj (by omega), show i + 0 = i from by omega, show i + (j - i) = j from by omega]
theorem rowEnd_bd {s : ByteArray} {k i : Nat} (hi : i < s.size) : i < rowEnd s k i ∧ rowEnd s k i ≤ s.size := by
  unfold rowEnd
  split
  · omega
  · have h1 := skip_le (fun j => kd (at_ s j) == k) s.size (i + 1)
    have h2 := skip_ge (fun j => kd (at_ s j) == k) s.size (i + 1) (by omega)
    omega
theorem rd_at (s : ByteArray) (t : St) (hw : t.wrong.code = 0) (ht : t.at' ≤ s.size) : rd s t = rdAt s t (blanks s t.at') := by
  have hle : blanks s t.at' ≤ s.size := skip_ge _ _ _ ht
  unfold rd rdAt
  rw [if_neg (by simp [hw])]
  simp only
  simp only [show skip (fun j => blk (at_ s j)) s.size t.at' = blanks s t.at' from rfl]
  generalize blanks s t.at' = i at *
  by_cases h1 : i = s.size ∨ at_ s i = 10
  · rw [if_pos h1, if_pos h1]
  · rw [if_neg h1, if_neg h1]
    by_cases h2 : at_ s i = 35
    · rw [if_pos h2, if_pos h2]
    · rw [if_neg h2, if_neg h2]
      by_cases h3 : kd (at_ s i) = 0
      · rw [if_pos h3, if_pos h3]
      · rw [if_neg h3, if_neg h3]
        have hi : i < s.size := by omega
        obtain ⟨h4, h5⟩ := rowEnd_bd (s := s) (k := kd (at_ s i)) hi
        have hb := badT_eq s (kd (at_ s i)) i (rowEnd s (kd (at_ s i)) i) h4 h5
        have hv : dvT (s.extract i (rowEnd s (kd (at_ s i)) i)) (s.extract i (rowEnd s (kd (at_ s i)) i)).size = dval s i (rowEnd s (kd (at_ s i)) i) := by
          have hz : (s.extract i (rowEnd s (kd (at_ s i)) i)).size = rowEnd s (kd (at_ s i)) i - i := by rw [ByteArray.size_extract]; omega
          unfold dvT
          rw [hz, dval_shift s i _ 0 _ h5 (by omega), show i + 0 = i from by omega, show i + (rowEnd s (kd (at_ s i)) i - i) = rowEnd s (kd (at_ s i)) i from by omega]
        unfold chkTk chkSt
        simp only [hb, hv]
        by_cases h6 : bad s (kd (at_ s i)) i (rowEnd s (kd (at_ s i)) i) = 0
        · rw [if_neg (by omega), if_pos h6, if_pos h6]
        · rw [if_pos h6, if_neg h6, if_neg h6]
/-- what follows the label 'blank' -/
noncomputable def rdTail1 : Code := match findLabel rdBody 1 with | some (.seq _ x) => x | _ => .skip
theorem wp_tail {x : Code} {Q : Exit → Act → World → Prop} {a : Act} {w : World} (hf : findLabel rdBody 1 = some (.seq .skip x)) (h : x.wp Tryd.prog Q a w) : rdTail1.wp Tryd.prog Q a w := by
  have e : rdTail1 = x := by unfold rdTail1; rw [hf]
  rw [e]; exact h
theorem from1 {Q : Exit → Act → World → Prop} {a : Act} {w : World} (h : rdTail1.wp Tryd.prog (ExitTo (FromLabel Tryd.prog rdBody Q) Q) a w) : FromLabel Tryd.prog rdBody Q 1 a w :=
  fromLabel 1 (rest := .seq .skip rdTail1) (by kernel_rfl) (wp_seq (wp_skip h))
theorem byte_test (s : ByteArray) (j : Nat) (h : j < s.size) (c : Nat) (b : Bool) (hc : (at_ s j == c) = b) : (((s[j]'h).toNat : Int) == (c : Int)) = b := by
  rw [get_at s j h, ← hc]
  cases hh : at_ s j == c
  · simp at hh ⊢; omega
  · simp at hh ⊢; omega
set_option maxHeartbeats 1000000 in
set_option maxRecDepth 100000 in
theorem labT (w : World) (B : Nat) (s : ByteArray) (t : St) (told : Value) (n : Nat) (r : Option Tk × St) (hs : s.size ≤ 140737488351232) (i : Nat) (V : World) (h : RdAt w B s t told n i V) (hT : Blk V (w.heap.size + 1) zero5 38) (hb : t.begin' ≤ i) (hlt : i < s.size) (hbk : blk (at_ s i) = false) (h35 : at_ s i ≠ 35) (h10 : at_ s i ≠ 10) (hr : r = rdAt s t i) (u1 u3 u5 u6 u7 u8 u9 u10 u11 u12 u13 u14 u15 u16 u17 u18 u19 u20 u21 u22 u23 u24 u25 u26 u27 u28 u29 u30 u31 u32 u33 u34 u35 u36 u37 u38 u39 u40 u41 u42 u43 u44 u45 u46 u47 u48 u49 u50 u51 u52 u53 u54 u55 u56 u57 u58 u59 u60 u61 u62 u63 u64 u65 u66 u67 u68 u69 u70 u71 u72 u73 u74 u75 u76 u77 u78 u79 u80 u81 u82 u83 u84 u85 u86 u87 u88 u89 u90 u91 u92 u93 u94 u95 u96 u97 u98 u99 u100 u101 u102 u103 u104 u105 u106 u107 u108 u109 u110 u111 u112 u113 u114 u115 u116 u117 u118 u119 u120 u121 u122 u123 u124 u125 u126 u127 u128 u129 u130 u131 u132 u133 u134 u135 u136 u137 u138 u139 u140 u141 u142 u143 u144 u145 u146 u147 u148 u149 u150 u151 u152 u153 u154 u155 u156 u157 u158 u159 u160 u161 u162 u163 u164 u165 u166 u167 u168 u169 : Value) :
    rdTail1.wp Tryd.prog (ExitTo (FromLabel Tryd.prog rdBody (RdQ w B s told n r)) (RdQ w B s told n r)) { tmps := #[.pointer (some ⟨B, 0, none⟩), u1, .pointer (some ⟨w.heap.size, 0, none⟩), u3, .pointer (some ⟨w.heap.size + 1, 0, none⟩), u5, u6, u7, u8, u9, u10, u11, u12, u13, u14, u15, u16, u17, u18, u19, u20, u21, u22, u23, u24, u25, u26, u27, u28, u29, u30, u31, u32, u33, u34, u35, u36, u37, u38, u39, u40, u41, u42, u43, u44, u45, u46, u47, u48, u49, u50, u51, u52, u53, u54, u55, u56, u57, u58, u59, u60, u61, u62, u63, u64, u65, u66, u67, u68, u69, u70, u71, u72, u73, u74, u75, u76, u77, u78, u79, u80, u81, u82, u83, u84, u85, u86, u87, u88, u89, u90, u91, u92, u93, u94, u95, u96, u97, u98, u99, u100, u101, u102, u103, u104, u105, u106, u107, u108, u109, u110, u111, u112, u113, u114, u115, u116, u117, u118, u119, u120, u121, u122, u123, u124, u125, u126, u127, u128, u129, u130, u131, u132, u133, u134, u135, u136, u137, u138, u139, u140, u141, u142, u143, u144, u145, u146, u147, u148, u149, u150, u151, u152, u153, u154, u155, u156, u157, u158, u159, u160, u161, u162, u163, u164, u165, u166, u167, u168, u169], defers := [] } V := by
  have HH0 := Sd.mk h
  have HT := Sd.mk hT
  have hblk := h.sc.blk
  have hne := hT.ne hblk (by decide)
  unfold scanC at hblk
  have c0 := hblk.cell (i := 0) rfl
  have c1 := hblk.cell (i := 1) rfl
  have cf := hblk.frozen
  have cl := hblk.lt
  have c2 : True := trivial
  have c3 : True := trivial
  have a0 : True := trivial
  have a1 : True := trivial
  have a2 : True := trivial
  have a3 : True := trivial
  have a4 : True := trivial
  have af : True := trivial
  have al := hT.lt
  have es : ((i : Int) == s.size) = false := by simp; omega
  have bt := byte_test s i hlt
  have hno : ¬ (at_ s i = 32 ∨ at_ s i = 9 ∨ at_ s i = 13) := fun h => by rw [(blk_iff _).2 h] at hbk; cases hbk
  have e32 := bt 32 false (by simp; omega)
  have e9 := bt 9 false (by simp; omega)
  have e13 := bt 13 false (by simp; omega)
  have e35 := bt 35 false (by simpa using h35)
  have e10 := bt 10 false (by simpa using h10)
  obtain ⟨k, hk⟩ : ∃ k, kd (at_ s i) = k := ⟨_, rfl⟩
  have hk4 : k < 4 := by rw [← hk]; exact kd_lt _
  have KK : ∀ w, Calls Tryd.prog 39 #[.int .i32 ((s[i]'hlt).toNat)] w fun e w' => e = .returned (.int .i64 k) ∧ w' = w := fun w => (kind_q _ w).mono fun _ _ h => ⟨by rw [h.1, get_at s i hlt, hk], h.2⟩
  have KK := Sd.mk KK
  have hw1 : wrap32 ((s[i]'hlt).toNat : Int) = ((s[i]'hlt).toNat : Int) := byte_wrap32 s i hlt
  have hw2 : IntKind.i32.wrap ((s[i]'hlt).toNat : Int) = ((s[i]'hlt).toNat : Int) := byte_i32 s i hlt
  have HR : Sd (r = if kd (at_ s i) = 0 then (none, { t with at' := i, wrong := ⟨90, t.line, i - t.begin' + 1⟩ }) else (chkTk ⟨kd (at_ s i), s.extract i (rowEnd s (kd (at_ s i)) i), 0, t.line, i - t.begin' + 1⟩, chkSt { t with at' := rowEnd s (kd (at_ s i)) i } ⟨kd (at_ s i), s.extract i (rowEnd s (kd (at_ s i)) i), 0, t.line, i - t.begin' + 1⟩)) := ⟨by rw [hr, rdAt, if_neg (by omega), if_neg h35]⟩
  rw [hk] at HR
  have HK := Sd.mk hk
  clear hbk hno h35 h10 hr hk hT h hblk bt
  refine wp_tail rfl ?_
  go_wp2
  go_region
  go_wp2
  go_region
  go_wp2
  have HH2 := Sd.mk HH0.out.drew.drew
  have HT2 := Sd.mk HT.out.drew.drew
  clear c0 c1 c2 c3 cf cl a0 a1 a2 a3 a4 af al HH0 HT
  generalize V.drew.drew = V2 at *
  have hblk := HH2.out.sc.blk
  unfold scanC at hblk
  have c0 := hblk.cell (i := 0) rfl
  have c2 := hblk.cell (i := 2) rfl
  have c3 := hblk.cell (i := 3) rfl
  have c6 := hblk.cell (i := 6) rfl
  have c1 := hblk.cell (i := 1) rfl
  have cf := hblk.frozen
  have cl := hblk.lt
  have a0 := HT2.out.cell (i := 0) rfl
  have a1 := HT2.out.cell (i := 1) rfl
  have a2 := HT2.out.cell (i := 2) rfl
  have a3 := HT2.out.cell (i := 3) rfl
  have a4 := HT2.out.cell (i := 4) rfl
  have af := HT2.out.frozen
  have al := HT2.out.lt
  clear hblk
  unfold zero5 at a0 a1 a2 a3 a4
  refine wp_region_still_tail 18 (by kernel_rfl) (by kernel_rfl) ?_
  change wpStill _ _ V2.drew _ _ _
  simp only [List.take_succ_cons, List.take_zero, List.drop_succ_cons, List.drop_zero]
  repeat still_step
  still_call (KK.out _)
  repeat still_step
  refine wpStill_nil ?_
  change wpList _ _ _ _ _ V2.drew
  have HH3 := Sd.mk HH2.out.drew
  have HT3 := Sd.mk HT2.out.drew
  clear c0 c1 c2 c3 c6 cf cl a0 a1 a2 a3 a4 af al HH2 HT2
  generalize V2.drew = V3 at *
  have hblk := HH3.out.sc.blk
  unfold scanC at hblk
  have c0 := hblk.cell (i := 0) rfl
  have c2 := hblk.cell (i := 2) rfl
  have c3 := hblk.cell (i := 3) rfl
  have c6 := hblk.cell (i := 6) rfl
  have c1 := hblk.cell (i := 1) rfl
  have cf := hblk.frozen
  have cl := hblk.lt
  have a0 := HT3.out.cell (i := 0) rfl
  have a1 := HT3.out.cell (i := 1) rfl
  have a2 := HT3.out.cell (i := 2) rfl
  have a3 := HT3.out.cell (i := 3) rfl
  have a4 := HT3.out.cell (i := 4) rfl
  have af := HT3.out.frozen
  have al := HT3.out.lt
  clear hblk
  unfold zero5 at a0 a1 a2 a3 a4
  have hcol : ((i : Int) - t.begin' + 1) = ((i - t.begin' + 1 : Nat) : Int) := by omega
  have HCOL := Sd.mk hcol
  clear hcol
  by_cases hk0 : k = 0
  · have ek : ((k : Int) == 0) = true := by simp; omega
    have HR0 : Sd (r = (none, { t with at' := i, wrong := ⟨90, t.line, i - t.begin' + 1⟩ })) := ⟨by rw [HR.out, if_pos hk0]⟩
    have HK0 := Sd.mk hk0
    have hR3 := HH3.out.res
    unfold zero5 at hR3
    have b0 := hR3.cell (i := 0) rfl
    have b1 := hR3.cell (i := 1) rfl
    have b2 := hR3.cell (i := 2) rfl
    have b3 := hR3.cell (i := 3) rfl
    have b4 := hR3.cell (i := 4) rfl
    have bf := hR3.frozen
    have bl := hR3.lt
    clear hk0 hR3
    go_wp2
    rw [exitTo_ret, HCOL.out]
    unfold RdQ RdPost
    have hB := HH3.out.lt
    have hT4 := HT3.out
    have hRB := (HH3.out.sc.blk.ne HH3.out.res (by decide))
    have hTB := (HH3.out.sc.blk.ne hT4 (by decide))
    refine bodyPost_ret (v := .tuple #[.agg #[.int .i64 k, .string ⟨#[]⟩, .int .u32 0, .int .i64 t.line, .int .i64 ((i - t.begin' + 1 : Nat) : Int)], .bool false]) ?_ rfl ⟨⟨⟨k, ⟨#[]⟩, 0, t.line, i - t.begin' + 1⟩, false, rfl, by rw [HR0.out]; rfl⟩, ⟨.pointer (some ⟨V3.heap.size, 0, none⟩), ?_⟩, ?_⟩
    · simp [results, Tryd.results24, go_sem, b0, b1, b2, b3, b4, bl]
    · rw [HR0.out]
      exact fault_new (t := { t with at' := i }) ((((HH3.out.sc.blk.putTk hTB k t.line ⟨#[]⟩ 0 ((i - t.begin' + 1 : Nat) : Int)).set 6 _).putTk hRB k t.line ⟨#[]⟩ 0 ((i - t.begin' + 1 : Nat) : Int))) (by simp [putTk]) ⟨90, t.line, i - t.begin' + 1⟩ (by simp)
    · exact ((((HH3.out.only.putTk (w.heap.size + 1) (fun h => absurd h (by simp)) k t.line ⟨#[]⟩ 0 _).setCell ⟨B, 6, none⟩ _ (fun _ => rfl)).putTk w.heap.size (fun h => absurd h (by simp)) k t.line ⟨#[]⟩ 0 _).alloc _)
  · have ek : ((k : Int) == 0) = false := by simp; omega
    obtain ⟨e, he⟩ : ∃ e, rowEnd s k i = e := ⟨_, rfl⟩
    have HR1 : Sd (r = (chkTk ⟨k, s.extract i e, 0, t.line, i - t.begin' + 1⟩, chkSt { t with at' := e } ⟨k, s.extract i e, 0, t.line, i - t.begin' + 1⟩)) := ⟨by rw [HR.out, if_neg hk0, he]⟩
    have HE : Sd (e = rowTo s k (i + 1)) := ⟨by rw [← he]; rfl⟩
    have HD : Sd (k = 2 → ∀ x, x < (s.extract i e).size → 48 ≤ at_ (s.extract i e) x ∧ at_ (s.extract i e) x ≤ 57) := ⟨fun h2 x hx => by
      have hbd := rowEnd_bd (s := s) (k := k) hlt
      rw [he] at hbd
      rw [ByteArray.size_extract] at hx
      rw [at_extract s i e x hbd.2 (by omega)]
      refine (kd2 _).1 ?_
      by_cases hx0 : x = 0
      · rw [hx0, Nat.add_zero, HK.out, h2]; rfl
      · have := skip_all (fun j => kd (at_ s j) == k) s.size (i + 1) (i + x) (by omega) (by
          have h3 : rowEnd s k i = skip (fun j => kd (at_ s j) == k) s.size (i + 1) := by unfold rowEnd; rw [if_neg (by omega)]
          rw [← h3, he]; omega)
        rw [← h2]; exact this⟩
    clear he
    go_wp2
    change Code.wp _ _ _ _ (putTk V3 (w.heap.size + 1) k t.line ⟨#[]⟩ 0 ((i : Int) - t.begin' + 1))
    rw [HCOL.out]
    have HT4 : Sd (Blk (putTk V3 (w.heap.size + 1) k t.line ⟨#[]⟩ 0 ((i - t.begin' + 1 : Nat) : Int)) (w.heap.size + 1) #[.int .i64 k, .string ⟨#[]⟩, .int .u32 0, .int .i64 t.line, .int .i64 ((i - t.begin' + 1 : Nat) : Int)] 38) := ⟨((((HT3.out.set 0 _).set 1 _).set 2 _).set 3 _).set 4 _⟩
    have HH4 : Sd (RdAt w B s t told n i (putTk V3 (w.heap.size + 1) k t.line ⟨#[]⟩ 0 ((i - t.begin' + 1 : Nat) : Int))) := ⟨⟨HH3.out.sc.putTk HT3.out _ _ _ _ _, HH3.out.res.putTk (by omega) _ _ _ _ _, HH3.out.only.putTk (w.heap.size + 1) (fun h => absurd h (by simp)) _ _ _ _ _, HH3.out.lt⟩⟩
    clear c0 c1 c2 c3 c6 cf cl a0 a1 a2 a3 a4 af al HH3 HT3
    obtain ⟨c, hc⟩ : ∃ c, i - t.begin' + 1 = c := ⟨_, rfl⟩
    rw [hc] at HT4 HH4 HR1 ⊢
    generalize putTk V3 (w.heap.size + 1) k t.line ⟨#[]⟩ 0 (c : Int) = V4 at *
    clear hc HCOL
    have hblk := HH4.out.sc.blk
    unfold scanC at hblk
    have c0 := hblk.cell (i := 0) rfl
    have c1 := hblk.cell (i := 1) rfl
    have cf := hblk.frozen
    have cl := hblk.lt
    have a0 := HT4.out.cell (i := 0) rfl
    have a1 := HT4.out.cell (i := 1) rfl
    have a2 := HT4.out.cell (i := 2) rfl
    have a3 := HT4.out.cell (i := 3) rfl
    have a4 := HT4.out.cell (i := 4) rfl
    have af := HT4.out.frozen
    have al := HT4.out.lt
    clear hblk
    go_step3
    go_wp2
    have HH1 : Sd (RdAt w B s t told n (i + 1) (V4.setCell ⟨B, 1, none⟩ (.int .i64 ((i : Int) + 1)))) := ⟨HH4.out.goto (i + 1)⟩
    have HT1 := Sd.mk (HT4.out.other (a := ⟨B, 1, none⟩) (.int .i64 ((i : Int) + 1)) hne)
    clear c0 c1 cf cl a0 a1 a2 a3 a4 af al HH4 HT4
    generalize V4.setCell ⟨B, 1, none⟩ (.int .i64 ((i : Int) + 1)) = V1 at *
    have HR := HR1
    have hk : k ≠ 0 := hk0
    clear hk0 es e32 e9 e13 e35 e10 HK KK hw1 hw2 ek HR1
    obtain ⟨J, hJ⟩ : ∃ J, i + 1 = J := ⟨_, rfl⟩
    rw [hJ] at HH1 HE
    have hiJ : i ≤ J := by omega
    have hJs : J ≤ s.size := by omega
    have HJ := Sd.mk hJ
    clear hJ
    have hblk := HH1.out.sc.blk
    unfold scanC at hblk
    have c0 := hblk.cell (i := 0) rfl
    have c1 := hblk.cell (i := 1) rfl
    have cf := hblk.frozen
    have cl := hblk.lt
    have a0 := HT1.out.cell (i := 0) rfl
    have a1 := HT1.out.cell (i := 1) rfl
    have a2 := HT1.out.cell (i := 2) rfl
    have a3 := HT1.out.cell (i := 3) rfl
    have a4 := HT1.out.cell (i := 4) rfl
    have af := HT1.out.frozen
    have al := HT1.out.lt
    clear hblk
    have HE2 : Sd (k ≠ 3 → e = rowN s k J) := ⟨fun h => by rw [HE.out, rowTo, if_neg h]⟩
    by_cases hk3 : k = 3
    · have ek : ((k : Int) != 3) = false := by simp; omega
      obtain rfl : J = e := by rw [HE.out, rowTo, if_pos hk3]
      clear hk3 HE HE2
      go_quiet (fail)
      have HH2 := Sd.mk (HH1.out.drewN nq)
      have HT2 := Sd.mk (HT1.out.drewN nq)
      clear c0 c1 cf cl a0 a1 a2 a3 a4 af al HH1 HT1
      generalize V1.drewN nq = V2 at *
      have hblk := HH2.out.sc.blk
      unfold scanC at hblk
      have c0 := hblk.cell (i := 0) rfl
      have c1 := hblk.cell (i := 1) rfl
      have cf := hblk.frozen
      have cl := hblk.lt
      have a0 := HT2.out.cell (i := 0) rfl
      have a1 := HT2.out.cell (i := 1) rfl
      have a2 := HT2.out.cell (i := 2) rfl
      have a3 := HT2.out.cell (i := 3) rfl
      have a4 := HT2.out.cell (i := 4) rfl
      have af := HT2.out.frozen
      have al := HT2.out.lt
      clear hblk
      go_wp2
      go_region
      go_wp2_with fail
      refine (checked_any _ B s { t with at' := J } told n k (s.extract i J) t.line c (by rw [ByteArray.size_extract]; omega) (HH2.out.sc.other HT2.out 1 _).drew hk hk4 HD.out).mono ?_
      rintro e' w1 ⟨⟨k', b, rfl, hk'⟩, ⟨p, hs1⟩, ho1⟩
      have HK := Sd.mk hk'
      have HS1 := Sd.mk hs1
      have HO1 := Sd.mk ((HH2.out.only.setCell ⟨w.heap.size + 1, 1, none⟩ _ (fun h => absurd h (by simp))).drew.trans ho1 (fun _ _ h => h))
      have hR1 := ((HH2.out.res.other (a := ⟨w.heap.size + 1, 1, none⟩) _ (by simp)).drew).only ho1 (by have := HH2.out.lt; omega)
      have HR1 := Sd.mk hR1
      unfold zero5 at hR1
      have b0 := hR1.cell (i := 0) rfl
      have b1 := hR1.cell (i := 1) rfl
      have b2 := hR1.cell (i := 2) rfl
      have b3 := hR1.cell (i := 3) rfl
      have b4 := hR1.cell (i := 4) rfl
      have bf := hR1.frozen
      have bl := hR1.lt
      clear hk' hs1 ho1 hR1 HH2 HT2 c0 c1 cf cl a0 a1 a2 a3 a4 af al
      unfold tkV
      go_wp2
      rw [exitTo_ret]
      unfold RdQ RdPost
      refine bodyPost_ret (v := .tuple #[tkV k', .bool b]) ?_ rfl ⟨⟨k', b, rfl, by rw [HR.out]; exact HK.out⟩, ⟨p, by rw [HR.out]; exact HS1.out.putTk HR1.out _ _ _ _ _⟩, HO1.out.putTk _ (fun h => by omega) _ _ _ _ _⟩
      simp [results, Tryd.results24, go_sem, b0, b1, b2, b3, b4, tkV]
    · have ek : ((k : Int) != 3) = true := by simp; omega
      have HK3 := Sd.mk hk3
      clear hk3 HE
      by_cases hlt : J < s.size
      · have KK := Sd.mk (kind_q (s[J]'hlt).toNat)
        have hw1 : wrap32 ((s[J]'hlt).toNat : Int) = ((s[J]'hlt).toNat : Int) := byte_wrap32 s J hlt
        have hw2 : IntKind.i32.wrap ((s[J]'hlt).toNat : Int) = ((s[J]'hlt).toNat : Int) := byte_i32 s J hlt
        by_cases hq : kd (s[J]'hlt).toNat = k
        · rw [hq] at KK
          have HG := Sd.mk (show e = rowTo s k (J + 1) by rw [HE2.out HK3.out, rowTo, if_neg HK3.out, rowN_go hlt (by rw [← get_at s J hlt, hq]; simp)])
          clear hq HE2
          go_quiet ((go_at_call 39; exact Calls.quiet_of_same (KK.out _)))
          have HH2 := Sd.mk (HH1.out.drewN nq)
          have HT2 := Sd.mk (HT1.out.drewN nq)
          clear c0 c1 cf cl a0 a1 a2 a3 a4 af al HH1 HT1
          generalize V1.drewN nq = V2 at *
          have hblk := HH2.out.sc.blk
          unfold scanC at hblk
          have c0 := hblk.cell (i := 0) rfl
          have c1 := hblk.cell (i := 1) rfl
          have cf := hblk.frozen
          have cl := hblk.lt
          have a0 := HT2.out.cell (i := 0) rfl
          have a1 := HT2.out.cell (i := 1) rfl
          have a2 := HT2.out.cell (i := 2) rfl
          have a3 := HT2.out.cell (i := 3) rfl
          have a4 := HT2.out.cell (i := 4) rfl
          have af := HT2.out.frozen
          have al := HT2.out.lt
          clear hblk
          go_wp2
          go_step3
          change FromLabel Tryd.prog rdBody (RdQ w B s told n r) 3 _ _
          exact lab3 w B s t told n r hs i k c hk hk4 e HR.out HD.out (s.size - J) J V2 rfl HH2.out HT2.out (by omega) (by omega) HG.out _ _ _ _ _ _ _ _ _ _ _ _ _ _ _ _ _ _ _ _ _ _ _ _ _ _ _ _ _ _ _ _ _ _ _ _ _ _ _ _ _ _ _ _ _ _ _ _ _ _ _ _ _ _ _ _ _ _ _ _ _ _ _ _ _ _ _ _ _ _ _ _ _ _ _ _ _ _ _ _ _ _ _ _ _ _ _ _ _ _ _ _ _ _ _ _ _ _ _ _ _ _ _ _ _ _ _ _ _ _ _ _ _ _ _ _ _ _ _ _ _ _ _ _ _ _ _ _ _ _ _ _ _ _ _ _ _ _ _ _ _ _ _ _ _ _ _ _ _ _ _ _ _ _ _ _ _ _ _ _ _ _ _ _ _ _
        · obtain rfl : J = e := by rw [HE2.out HK3.out, rowN_stop (by rw [← get_at s J hlt]; simp; intro _; exact hq)]
          have eq1 : (((kd (s[J]'hlt).toNat : Nat) : Int) == (k : Int)) = false := by simp; omega
          have eq2 : (kd (s[J]'hlt).toNat == k) = false := by simp; omega
          generalize kd (s[J]'hlt).toNat = q at *
          clear hq HE2
          go_quiet ((go_at_call 39; exact Calls.quiet_of_same (KK.out _)))
          have HH2 := Sd.mk (HH1.out.drewN nq)
          have HT2 := Sd.mk (HT1.out.drewN nq)
          clear c0 c1 cf cl a0 a1 a2 a3 a4 af al HH1 HT1
          generalize V1.drewN nq = V2 at *
          have hblk := HH2.out.sc.blk
          unfold scanC at hblk
          have c0 := hblk.cell (i := 0) rfl
          have c1 := hblk.cell (i := 1) rfl
          have cf := hblk.frozen
          have cl := hblk.lt
          have a0 := HT2.out.cell (i := 0) rfl
          have a1 := HT2.out.cell (i := 1) rfl
          have a2 := HT2.out.cell (i := 2) rfl
          have a3 := HT2.out.cell (i := 3) rfl
          have a4 := HT2.out.cell (i := 4) rfl
          have af := HT2.out.frozen
          have al := HT2.out.lt
          clear hblk
          go_wp2
          go_region
          go_wp2_with fail
          refine (checked_any _ B s { t with at' := J } told n k (s.extract i J) t.line c (by rw [ByteArray.size_extract]; omega) (HH2.out.sc.other HT2.out 1 _).drew hk hk4 HD.out).mono ?_
          rintro e' w1 ⟨⟨k', b, rfl, hk'⟩, ⟨p, hs1⟩, ho1⟩
          have HK := Sd.mk hk'
          have HS1 := Sd.mk hs1
          have HO1 := Sd.mk ((HH2.out.only.setCell ⟨w.heap.size + 1, 1, none⟩ _ (fun h => absurd h (by simp))).drew.trans ho1 (fun _ _ h => h))
          have hR1 := ((HH2.out.res.other (a := ⟨w.heap.size + 1, 1, none⟩) _ (by simp)).drew).only ho1 (by have := HH2.out.lt; omega)
          have HR1 := Sd.mk hR1
          unfold zero5 at hR1
          have b0 := hR1.cell (i := 0) rfl
          have b1 := hR1.cell (i := 1) rfl
          have b2 := hR1.cell (i := 2) rfl
          have b3 := hR1.cell (i := 3) rfl
          have b4 := hR1.cell (i := 4) rfl
          have bf := hR1.frozen
          have bl := hR1.lt
          clear hk' hs1 ho1 hR1 HH2 HT2 c0 c1 cf cl a0 a1 a2 a3 a4 af al
          unfold tkV
          go_wp2
          rw [exitTo_ret]
          unfold RdQ RdPost
          refine bodyPost_ret (v := .tuple #[tkV k', .bool b]) ?_ rfl ⟨⟨k', b, rfl, by rw [HR.out]; exact HK.out⟩, ⟨p, by rw [HR.out]; exact HS1.out.putTk HR1.out _ _ _ _ _⟩, HO1.out.putTk _ (fun h => by omega) _ _ _ _ _⟩
          simp [results, Tryd.results24, go_sem, b0, b1, b2, b3, b4, tkV]
      · obtain rfl : J = e := by rw [HE2.out HK3.out, rowN_stop (by omega)]
        have ed : decide ((J : Int) < s.size) = false := by simp; omega
        have ed2 : decide (J < s.size) = false := by simp; omega
        clear HE2
        go_quiet (fail)
        have HH2 := Sd.mk (HH1.out.drewN nq)
        have HT2 := Sd.mk (HT1.out.drewN nq)
        clear c0 c1 cf cl a0 a1 a2 a3 a4 af al HH1 HT1
        generalize V1.drewN nq = V2 at *
        have hblk := HH2.out.sc.blk
        unfold scanC at hblk
        have c0 := hblk.cell (i := 0) rfl
        have c1 := hblk.cell (i := 1) rfl
        have cf := hblk.frozen
        have cl := hblk.lt
        have a0 := HT2.out.cell (i := 0) rfl
        have a1 := HT2.out.cell (i := 1) rfl
        have a2 := HT2.out.cell (i := 2) rfl
        have a3 := HT2.out.cell (i := 3) rfl
        have a4 := HT2.out.cell (i := 4) rfl
        have af := HT2.out.frozen
        have al := HT2.out.lt
        clear hblk
        go_wp2
        go_region
        go_wp2_with fail
        refine (checked_any _ B s { t with at' := J } told n k (s.extract i J) t.line c (by rw [ByteArray.size_extract]; omega) (HH2.out.sc.other HT2.out 1 _).drew hk hk4 HD.out).mono ?_
        rintro e' w1 ⟨⟨k', b, rfl, hk'⟩, ⟨p, hs1⟩, ho1⟩
        have HK := Sd.mk hk'
        have HS1 := Sd.mk hs1
        have HO1 := Sd.mk ((HH2.out.only.setCell ⟨w.heap.size + 1, 1, none⟩ _ (fun h => absurd h (by simp))).drew.trans ho1 (fun _ _ h => h))
        have hR1 := ((HH2.out.res.other (a := ⟨w.heap.size + 1, 1, none⟩) _ (by simp)).drew).only ho1 (by have := HH2.out.lt; omega)
        have HR1 := Sd.mk hR1
        unfold zero5 at hR1
        have b0 := hR1.cell (i := 0) rfl
        have b1 := hR1.cell (i := 1) rfl
        have b2 := hR1.cell (i := 2) rfl
        have b3 := hR1.cell (i := 3) rfl
        have b4 := hR1.cell (i := 4) rfl
        have bf := hR1.frozen
        have bl := hR1.lt
        clear hk' hs1 ho1 hR1 HH2 HT2 c0 c1 cf cl a0 a1 a2 a3 a4 af al
        unfold tkV
        go_wp2
        rw [exitTo_ret]
        unfold RdQ RdPost
        refine bodyPost_ret (v := .tuple #[tkV k', .bool b]) ?_ rfl ⟨⟨k', b, rfl, by rw [HR.out]; exact HK.out⟩, ⟨p, by rw [HR.out]; exact HS1.out.putTk HR1.out _ _ _ _ _⟩, HO1.out.putTk _ (fun h => by omega) _ _ _ _ _⟩
        simp [results, Tryd.results24, go_sem, b0, b1, b2, b3, b4, tkV]

end Go.Proofs.YtghlfpeifdikkaaDoor
