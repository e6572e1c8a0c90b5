/- The scanner's read: its labels: a row. -/
import Derived.StillTailTactics
import Derived.Test.YtghlfpeifdikkaaDoorLexR2
namespace Go.Proofs.YtghlfpeifdikkaaDoor
open Go.RowKit Go.Proofs.YtghlfpeifdikkaaDoor.Lex

theorem kind_q (q : Nat) (w : World) : Calls Tryd.prog 39 #[.int .i32 q] w fun e w' => e = .returned (.int .i64 (kd q : Nat)) ∧ w' = w := (kind_any q w).mono fun _ _ h => ⟨h.1, h.2.symm⟩
theorem byte_i32 (s : ByteArray) (k : Nat) (h : k < s.size) : IntKind.i32.wrap ((s[k]'h).toNat : Int) = ((s[k]'h).toNat : Int) := by
  have := byte_bd s k h
  rw [IntKind.wrap_i32]; omega
theorem byte_wrap32 (s : ByteArray) (k : Nat) (h : k < s.size) : wrap32 ((s[k]'h).toNat : Int) = ((s[k]'h).toNat : Int) := by
  have := byte_bd s k h
  unfold wrap32; omega
/-- where a row of that sort ends, of which the bytes up to there are known -/
def rowTo (s : ByteArray) (k j : Nat) : Nat := if k = 3 then j else rowN s k j
set_option maxHeartbeats 4000000 in
set_option maxRecDepth 100000 in
theorem lab3 (w : World) (B : Nat) (s : ByteArray) (t : St) (told : Value) (n : Nat) (r : Option Tk × St) (hs : s.size ≤ 140737488351232) (i k c : Nat) (hk : k ≠ 0) (hk4 : k < 4) (e : Nat) (hr : r = (chkTk ⟨k, s.extract i e, 0, t.line, c⟩, chkSt { t with at' := e } ⟨k, s.extract i e, 0, t.line, c⟩)) (hdig : k = 2 → ∀ x, x < (s.extract i e).size → 48 ≤ at_ (s.extract i e) x ∧ at_ (s.extract i e) x ≤ 57) :
    ∀ (m j : Nat) (V : World) (_ : s.size - j = m) (_ : RdAt w B s t told n j V) (_ : Blk V (w.heap.size + 1) #[.int .i64 k, .string ⟨#[]⟩, .int .u32 0, .int .i64 t.line, .int .i64 c] 38) (_ : i ≤ j) (_ : j < s.size) (_ : e = rowTo s k (j + 1)) (u1 u3 u6 u7 u8 u9 u10 u11 u12 u13 u14 u15 u16 u17 u18 u19 u20 u21 u22 u23 u24 u25 u26 u27 u28 u29 u30 u31 u32 u33 u34 u35 u36 u37 u38 u39 u40 u41 u42 u43 u44 u45 u46 u47 u48 u49 u50 u51 u52 u53 u54 u55 u56 u57 u58 u59 u60 u61 u62 u63 u64 u65 u66 u67 u68 u69 u70 u71 u72 u73 u74 u75 u76 u77 u78 u79 u80 u81 u82 u83 u84 u85 u86 u87 u88 u89 u90 u91 u92 u93 u94 u95 u96 u97 u98 u99 u100 u101 u102 u103 u104 u105 u106 u107 u108 u109 u110 u111 u112 u113 u114 u115 u116 u117 u118 u119 u120 u121 u122 u123 u124 u125 u126 u127 u128 u129 u130 u131 u132 u133 u134 u135 u136 u137 u138 u139 u140 u141 u142 u143 u144 u145 u146 u147 u148 u149 u150 u151 u152 u153 u154 u155 u156 u157 u158 u159 u160 u161 u162 u163 u164 u165 u166 u167 u168 u169 : Value),
    FromLabel Tryd.prog rdBody (RdQ w B s told n r) 3 { tmps := #[.pointer (some ⟨B, 0, none⟩), u1, .pointer (some ⟨w.heap.size, 0, none⟩), u3, .pointer (some ⟨w.heap.size + 1, 0, none⟩), .int .i64 i, u6, u7, u8, u9, u10, u11, u12, u13, u14, u15, u16, u17, u18, u19, u20, u21, u22, u23, u24, u25, u26, u27, u28, u29, u30, u31, u32, u33, u34, u35, u36, u37, u38, u39, u40, u41, u42, u43, u44, u45, u46, u47, u48, u49, u50, u51, u52, u53, u54, u55, u56, u57, u58, u59, u60, u61, u62, u63, u64, u65, u66, u67, u68, u69, u70, u71, u72, u73, u74, u75, u76, u77, u78, u79, u80, u81, u82, u83, u84, u85, u86, u87, u88, u89, u90, u91, u92, u93, u94, u95, u96, u97, u98, u99, u100, u101, u102, u103, u104, u105, u106, u107, u108, u109, u110, u111, u112, u113, u114, u115, u116, u117, u118, u119, u120, u121, u122, u123, u124, u125, u126, u127, u128, u129, u130, u131, u132, u133, u134, u135, u136, u137, u138, u139, u140, u141, u142, u143, u144, u145, u146, u147, u148, u149, u150, u151, u152, u153, u154, u155, u156, u157, u158, u159, u160, u161, u162, u163, u164, u165, u166, u167, u168, u169], defers := [] } V := by
  intro m
  induction m with
  | zero => intro i V hm h hT hi hb; omega
  | succ m ih =>
    intro j V hm h hT hi hj he u1 u3 u6 u7 u8 u9 u10 u11 u12 u13 u14 u15 u16 u17 u18 u19 u20 u21 u22 u23 u24 u25 u26 u27 u28 u29 u30 u31 u32 u33 u34 u35 u36 u37 u38 u39 u40 u41 u42 u43 u44 u45 u46 u47 u48 u49 u50 u51 u52 u53 u54 u55 u56 u57 u58 u59 u60 u61 u62 u63 u64 u65 u66 u67 u68 u69 u70 u71 u72 u73 u74 u75 u76 u77 u78 u79 u80 u81 u82 u83 u84 u85 u86 u87 u88 u89 u90 u91 u92 u93 u94 u95 u96 u97 u98 u99 u100 u101 u102 u103 u104 u105 u106 u107 u108 u109 u110 u111 u112 u113 u114 u115 u116 u117 u118 u119 u120 u121 u122 u123 u124 u125 u126 u127 u128 u129 u130 u131 u132 u133 u134 u135 u136 u137 u138 u139 u140 u141 u142 u143 u144 u145 u146 u147 u148 u149 u150 u151 u152 u153 u154 u155 u156 u157 u158 u159 u160 u161 u162 u163 u164 u165 u166 u167 u168 u169
    have HH0 := Sd.mk h
    have HT := Sd.mk hT
    have HR := Sd.mk hr
    have HD := Sd.mk hdig
    have HE := Sd.mk he
    have hblk := h.sc.blk
    unfold scanC at hblk
    have c0 := hblk.cell (i := 0) rfl
    have c1 := hblk.cell (i := 1) rfl
    have cf := hblk.frozen
    have cl := hblk.lt
    have a0 := hT.cell (i := 0) rfl
    have a1 := hT.cell (i := 1) rfl
    have a2 := hT.cell (i := 2) rfl
    have a3 := hT.cell (i := 3) rfl
    have a4 := hT.cell (i := 4) rfl
    have af := hT.frozen
    have al := hT.lt
    have hne := hT.ne hblk (by decide)
    have Hm := Sd.mk hm
    have IH := Sd.mk ih
    clear hm h hT hr hdig he hblk ih
    refine fromLabel 3 rfl ?_
    go_wp2
    have HH1 : Sd (RdAt w B s t told n (j + 1) (V.setCell ⟨B, 1, none⟩ (.int .i64 ((j : Int) + 1)))) := ⟨HH0.out.goto (j + 1)⟩
    have HT1 := Sd.mk (HT.out.other (a := ⟨B, 1, none⟩) (.int .i64 ((j : Int) + 1)) hne)
    clear HH0 HT c0 c1 cf cl a0 a1 a2 a3 a4 af al
    generalize V.setCell ⟨B, 1, none⟩ (.int .i64 ((j : Int) + 1)) = V1 at *
    obtain ⟨J, hJ⟩ : ∃ J, j + 1 = J := ⟨_, rfl⟩
    rw [hJ] at HH1 HE
    have hiJ : i ≤ J := by omega
    have hJs : J ≤ s.size := by omega
    have HJ := Sd.mk hJ
    clear hJ
    have hblk := HH1.out.sc.blk
    unfold scanC at hblk
    have c0 := hblk.cell (i := 0) rfl
    have c1 := hblk.cell (i := 1) rfl
    have cf := hblk.frozen
    have cl := hblk.lt
    have a0 := HT1.out.cell (i := 0) rfl
    have a1 := HT1.out.cell (i := 1) rfl
    have a2 := HT1.out.cell (i := 2) rfl
    have a3 := HT1.out.cell (i := 3) rfl
    have a4 := HT1.out.cell (i := 4) rfl
    have af := HT1.out.frozen
    have al := HT1.out.lt
    clear hblk
    have HE2 : Sd (k ≠ 3 → e = rowN s k J) := ⟨fun h => by rw [HE.out, rowTo, if_neg h]⟩
    by_cases hk3 : k = 3
    · have ek : ((k : Int) != 3) = false := by simp; omega
      obtain rfl : J = e := by rw [HE.out, rowTo, if_pos hk3]
      clear hk3 HE HE2
      go_quiet (fail)
      have HH2 := Sd.mk (HH1.out.drewN nq)
      have HT2 := Sd.mk (HT1.out.drewN nq)
      clear c0 c1 cf cl a0 a1 a2 a3 a4 af al HH1 HT1
      generalize V1.drewN nq = V2 at *
      have hblk := HH2.out.sc.blk
      unfold scanC at hblk
      have c0 := hblk.cell (i := 0) rfl
      have c1 := hblk.cell (i := 1) rfl
      have cf := hblk.frozen
      have cl := hblk.lt
      have a0 := HT2.out.cell (i := 0) rfl
      have a1 := HT2.out.cell (i := 1) rfl
      have a2 := HT2.out.cell (i := 2) rfl
      have a3 := HT2.out.cell (i := 3) rfl
      have a4 := HT2.out.cell (i := 4) rfl
      have af := HT2.out.frozen
      have al := HT2.out.lt
      clear hblk
      go_wp2
      go_region
      go_wp2_with fail
      refine (checked_any _ B s { t with at' := J } told n k (s.extract i J) t.line c (by rw [ByteArray.size_extract]; omega) (HH2.out.sc.other HT2.out 1 _).drew hk hk4 HD.out).mono ?_
      rintro e' w1 ⟨⟨k', b, rfl, hk'⟩, ⟨p, hs1⟩, ho1⟩
      have HK := Sd.mk hk'
      have HS1 := Sd.mk hs1
      have HO1 := Sd.mk ((HH2.out.only.setCell ⟨w.heap.size + 1, 1, none⟩ _ (fun h => absurd h (by simp))).drew.trans ho1 (fun _ _ h => h))
      have hR1 := ((HH2.out.res.other (a := ⟨w.heap.size + 1, 1, none⟩) _ (by simp)).drew).only ho1 (by have := HH2.out.lt; omega)
      have HR1 := Sd.mk hR1
      unfold zero5 at hR1
      have b0 := hR1.cell (i := 0) rfl
      have b1 := hR1.cell (i := 1) rfl
      have b2 := hR1.cell (i := 2) rfl
      have b3 := hR1.cell (i := 3) rfl
      have b4 := hR1.cell (i := 4) rfl
      have bf := hR1.frozen
      have bl := hR1.lt
      clear hk' hs1 ho1 hR1 HH2 HT2 c0 c1 cf cl a0 a1 a2 a3 a4 af al
      unfold tkV
      go_wp2
      rw [exitTo_ret]
      unfold RdQ RdPost
      refine bodyPost_ret (v := .tuple #[tkV k', .bool b]) ?_ rfl ⟨⟨k', b, rfl, by rw [HR.out]; exact HK.out⟩, ⟨p, by rw [HR.out]; exact HS1.out.putTk HR1.out _ _ _ _ _⟩, HO1.out.putTk _ (fun h => by omega) _ _ _ _ _⟩
      simp [results, Tryd.results24, go_sem, b0, b1, b2, b3, b4, tkV]
    · have ek : ((k : Int) != 3) = true := by simp; omega
      have HK3 := Sd.mk hk3
      clear hk3 HE
      by_cases hlt : J < s.size
      · have KK := Sd.mk (kind_q (s[J]'hlt).toNat)
        have hw1 : wrap32 ((s[J]'hlt).toNat : Int) = ((s[J]'hlt).toNat : Int) := byte_wrap32 s J hlt
        have hw2 : IntKind.i32.wrap ((s[J]'hlt).toNat : Int) = ((s[J]'hlt).toNat : Int) := byte_i32 s J hlt
        by_cases hq : kd (s[J]'hlt).toNat = k
        · rw [hq] at KK
          have HG := Sd.mk (show e = rowTo s k (J + 1) by rw [HE2.out HK3.out, rowTo, if_neg HK3.out, rowN_go hlt (by rw [← get_at s J hlt, hq]; simp)])
          clear hq HE2
          go_quiet ((go_at_call 39; exact Calls.quiet_of_same (KK.out _)))
          have HH2 := Sd.mk (HH1.out.drewN nq)
          have HT2 := Sd.mk (HT1.out.drewN nq)
          clear c0 c1 cf cl a0 a1 a2 a3 a4 af al HH1 HT1
          generalize V1.drewN nq = V2 at *
          have hblk := HH2.out.sc.blk
          unfold scanC at hblk
          have c0 := hblk.cell (i := 0) rfl
          have c1 := hblk.cell (i := 1) rfl
          have cf := hblk.frozen
          have cl := hblk.lt
          have a0 := HT2.out.cell (i := 0) rfl
          have a1 := HT2.out.cell (i := 1) rfl
          have a2 := HT2.out.cell (i := 2) rfl
          have a3 := HT2.out.cell (i := 3) rfl
          have a4 := HT2.out.cell (i := 4) rfl
          have af := HT2.out.frozen
          have al := HT2.out.lt
          clear hblk
          go_wp2
          go_step3
          change FromLabel Tryd.prog rdBody (RdQ w B s told n r) 3 _ _
          exact IH.out J V2 (by have := Hm.out; have := HJ.out; omega) HH2.out HT2.out (by omega) (by omega) HG.out _ _ _ _ _ _ _ _ _ _ _ _ _ _ _ _ _ _ _ _ _ _ _ _ _ _ _ _ _ _ _ _ _ _ _ _ _ _ _ _ _ _ _ _ _ _ _ _ _ _ _ _ _ _ _ _ _ _ _ _ _ _ _ _ _ _ _ _ _ _ _ _ _ _ _ _ _ _ _ _ _ _ _ _ _ _ _ _ _ _ _ _ _ _ _ _ _ _ _ _ _ _ _ _ _ _ _ _ _ _ _ _ _ _ _ _ _ _ _ _ _ _ _ _ _ _ _ _ _ _ _ _ _ _ _ _ _ _ _ _ _ _ _ _ _ _ _ _ _ _ _ _ _ _ _ _ _ _ _ _ _ _ _ _ _ _
        · obtain rfl : J = e := by rw [HE2.out HK3.out, rowN_stop (by rw [← get_at s J hlt]; simp; intro _; exact hq)]
          have eq1 : (((kd (s[J]'hlt).toNat : Nat) : Int) == (k : Int)) = false := by simp; omega
          have eq2 : (kd (s[J]'hlt).toNat == k) = false := by simp; omega
          generalize kd (s[J]'hlt).toNat = q at *
          clear hq HE2
          go_quiet ((go_at_call 39; exact Calls.quiet_of_same (KK.out _)))
          have HH2 := Sd.mk (HH1.out.drewN nq)
          have HT2 := Sd.mk (HT1.out.drewN nq)
          clear c0 c1 cf cl a0 a1 a2 a3 a4 af al HH1 HT1
          generalize V1.drewN nq = V2 at *
          have hblk := HH2.out.sc.blk
          unfold scanC at hblk
          have c0 := hblk.cell (i := 0) rfl
          have c1 := hblk.cell (i := 1) rfl
          have cf := hblk.frozen
          have cl := hblk.lt
          have a0 := HT2.out.cell (i := 0) rfl
          have a1 := HT2.out.cell (i := 1) rfl
          have a2 := HT2.out.cell (i := 2) rfl
          have a3 := HT2.out.cell (i := 3) rfl
          have a4 := HT2.out.cell (i := 4) rfl
          have af := HT2.out.frozen
          have al := HT2.out.lt
          clear hblk
          go_wp2
          go_region
          go_wp2_with fail
          refine (checked_any _ B s { t with at' := J } told n k (s.extract i J) t.line c (by rw [ByteArray.size_extract]; omega) (HH2.out.sc.other HT2.out 1 _).drew hk hk4 HD.out).mono ?_
          rintro e' w1 ⟨⟨k', b, rfl, hk'⟩, ⟨p, hs1⟩, ho1⟩
          have HK := Sd.mk hk'
          have HS1 := Sd.mk hs1
          have HO1 := Sd.mk ((HH2.out.only.setCell ⟨w.heap.size + 1, 1, none⟩ _ (fun h => absurd h (by simp))).drew.trans ho1 (fun _ _ h => h))
          have hR1 := ((HH2.out.res.other (a := ⟨w.heap.size + 1, 1, none⟩) _ (by simp)).drew).only ho1 (by have := HH2.out.lt; omega)
          have HR1 := Sd.mk hR1
          unfold zero5 at hR1
          have b0 := hR1.cell (i := 0) rfl
          have b1 := hR1.cell (i := 1) rfl
          have b2 := hR1.cell (i := 2) rfl
          have b3 := hR1.cell (i := 3) rfl
          have b4 := hR1.cell (i := 4) rfl
          have bf := hR1.frozen
          have bl := hR1.lt
          clear hk' hs1 ho1 hR1 HH2 HT2 c0 c1 cf cl a0 a1 a2 a3 a4 af al
          unfold tkV
          go_wp2
          rw [exitTo_ret]
          unfold RdQ RdPost
          refine bodyPost_ret (v := .tuple #[tkV k', .bool b]) ?_ rfl ⟨⟨k', b, rfl, by rw [HR.out]; exact HK.out⟩, ⟨p, by rw [HR.out]; exact HS1.out.putTk HR1.out _ _ _ _ _⟩, HO1.out.putTk _ (fun h => by omega) _ _ _ _ _⟩
          simp [results, Tryd.results24, go_sem, b0, b1, b2, b3, b4, tkV]
      · obtain rfl : J = e := by rw [HE2.out HK3.out, rowN_stop (by omega)]
        have ed : decide ((J : Int) < s.size) = false := by simp; omega
        have ed2 : decide (J < s.size) = false := by simp; omega
        clear HE2
        go_quiet (fail)
        have HH2 := Sd.mk (HH1.out.drewN nq)
        have HT2 := Sd.mk (HT1.out.drewN nq)
        clear c0 c1 cf cl a0 a1 a2 a3 a4 af al HH1 HT1
        generalize V1.drewN nq = V2 at *
        have hblk := HH2.out.sc.blk
        unfold scanC at hblk
        have c0 := hblk.cell (i := 0) rfl
        have c1 := hblk.cell (i := 1) rfl
        have cf := hblk.frozen
        have cl := hblk.lt
        have a0 := HT2.out.cell (i := 0) rfl
        have a1 := HT2.out.cell (i := 1) rfl
        have a2 := HT2.out.cell (i := 2) rfl
        have a3 := HT2.out.cell (i := 3) rfl
        have a4 := HT2.out.cell (i := 4) rfl
        have af := HT2.out.frozen
        have al := HT2.out.lt
        clear hblk
        go_wp2
        go_region
        go_wp2_with fail
        refine (checked_any _ B s { t with at' := J } told n k (s.extract i J) t.line c (by rw [ByteArray.size_extract]; omega) (HH2.out.sc.other HT2.out 1 _).drew hk hk4 HD.out).mono ?_
        rintro e' w1 ⟨⟨k', b, rfl, hk'⟩, ⟨p, hs1⟩, ho1⟩
        have HK := Sd.mk hk'
        have HS1 := Sd.mk hs1
        have HO1 := Sd.mk ((HH2.out.only.setCell ⟨w.heap.size + 1, 1, none⟩ _ (fun h => absurd h (by simp))).drew.trans ho1 (fun _ _ h => h))
        have hR1 := ((HH2.out.res.other (a := ⟨w.heap.size + 1, 1, none⟩) _ (by simp)).drew).only ho1 (by have := HH2.out.lt; omega)
        have HR1 := Sd.mk hR1
        unfold zero5 at hR1
        have b0 := hR1.cell (i := 0) rfl
        have b1 := hR1.cell (i := 1) rfl
        have b2 := hR1.cell (i := 2) rfl
        have b3 := hR1.cell (i := 3) rfl
        have b4 := hR1.cell (i := 4) rfl
        have bf := hR1.frozen
        have bl := hR1.lt
        clear hk' hs1 ho1 hR1 HH2 HT2 c0 c1 cf cl a0 a1 a2 a3 a4 af al
        unfold tkV
        go_wp2
        rw [exitTo_ret]
        unfold RdQ RdPost
        refine bodyPost_ret (v := .tuple #[tkV k', .bool b]) ?_ rfl ⟨⟨k', b, rfl, by rw [HR.out]; exact HK.out⟩, ⟨p, by rw [HR.out]; exact HS1.out.putTk HR1.out _ _ _ _ _⟩, HO1.out.putTk _ (fun h => by omega) _ _ _ _ _⟩
        simp [results, Tryd.results24, go_sem, b0, b1, b2, b3, b4, tkV]
end Go.Proofs.YtghlfpeifdikkaaDoor
