/- The scanner's read: its labels: the line's end. -/
import Derived.StillTailTactics
import Derived.Test.YtghlfpeifdikkaaDoorLexChl
namespace Go.Proofs.YtghlfpeifdikkaaDoor
open Go.RowKit Go.Proofs.YtghlfpeifdikkaaDoor.Lex

/-- what stands in the scope of read's labels -/
noncomputable def rdBody : Code := match Tryd.f24.body with | some (.seq _ (.scope c)) => c | _ => .skip
def RdPost (w : World) (B : Nat) (s : ByteArray) (told : Value) (n : Nat) (r : Option Tk × St) (e : Ending) (w' : World) : Prop := TokOut r.1 e ∧ Went w B s r.2 told n w'
noncomputable def RdQ (w : World) (B : Nat) (s : ByteArray) (told : Value) (n : Nat) (r : Option Tk × St) : Exit → Act → World → Prop := bodyPost Tryd.prog Tryd.f24 (RdPost w B s told n r)
def zero5 : Array Value := #[.int .i64 0, .string ⟨#[]⟩, .int .u32 0, .int .i64 0, .int .i64 0]
/-- between two labels -/
structure RdAt (w : World) (B : Nat) (s : ByteArray) (t : St) (told : Value) (n : Nat) (i : Nat) (V : World) : Prop where
  sc : Scan V B s { t with at' := i } told n (.pointer none)
  res : Blk V w.heap.size zero5 38
  only : Only w V (· = B)
  lt : B < w.heap.size
theorem RdAt.drew {w : World} {B : Nat} {s : ByteArray} {t : St} {told : Value} {n i : Nat} {V : World} (h : RdAt w B s t told n i V) : RdAt w B s t told n i V.drew := ⟨⟨h.sc.blk, h.sc.wr.none⟩, h.res, h.only.drew, h.lt⟩
theorem RdAt.drewN {w : World} {B : Nat} {s : ByteArray} {t : St} {told : Value} {n i : Nat} {V : World} (h : RdAt w B s t told n i V) (m : Nat) : RdAt w B s t told n i (V.drewN m) := ⟨⟨h.sc.blk, h.sc.wr.none⟩, h.res, h.only.drewN m, h.lt⟩
theorem RdAt.goto {w : World} {B : Nat} {s : ByteArray} {t : St} {told : Value} {n i : Nat} {V : World} (h : RdAt w B s t told n i V) (j : Nat) : RdAt w B s t told n j (V.setCell ⟨B, 1, none⟩ (.int .i64 j)) :=
  ⟨h.sc.goto j, h.res.other (a := ⟨B, 1, none⟩) _ (by have := h.lt; simp only; omega), h.only.setCell ⟨B, 1, none⟩ _ (fun _ => rfl), h.lt⟩

set_option maxHeartbeats 4000000 in
set_option maxRecDepth 100000 in
theorem lab0 (w : World) (B : Nat) (s : ByteArray) (t : St) (told : Value) (n : Nat) (r : Option Tk × St) (hs : s.size ≤ 140737488351232) (hl : t.line ≤ 140737488351234) (i : Nat) (V : World) (h : RdAt w B s t told n i V) (hi : i ≤ s.size) (hb : t.begin' ≤ i) (hr : r = Lex.ends s { t with at' := i }) (u1 u3 u4 u5 u6 u7 u8 u9 u10 u11 u12 u13 u14 u15 u16 u17 u18 u19 u20 u21 u22 u23 u24 u25 u26 u27 u28 u29 u30 u31 u32 u33 u34 u35 u36 u37 u38 u39 u40 u41 u42 u43 u44 u45 u46 u47 u48 u49 u50 u51 u52 u53 u54 u55 u56 u57 u58 u59 u60 u61 u62 u63 u64 u65 u66 u67 u68 u69 u70 u71 u72 u73 u74 u75 u76 u77 u78 u79 u80 u81 u82 u83 u84 u85 u86 u87 u88 u89 u90 u91 u92 u93 u94 u95 u96 u97 u98 u99 u100 u101 u102 u103 u104 u105 u106 u107 u108 u109 u110 u111 u112 u113 u114 u115 u116 u117 u118 u119 u120 u121 u122 u123 u124 u125 u126 u127 u128 u129 u130 u131 u132 u133 u134 u135 u136 u137 u138 u139 u140 u141 u142 u143 u144 u145 u146 u147 u148 u149 u150 u151 u152 u153 u154 u155 u156 u157 u158 u159 u160 u161 u162 u163 u164 u165 u166 u167 u168 u169 : Value) :
    FromLabel Tryd.prog rdBody (RdQ w B s told n r) 0 { tmps := #[.pointer (some ⟨B, 0, none⟩), u1, .pointer (some ⟨w.heap.size, 0, none⟩), u3, u4, u5, u6, u7, u8, u9, u10, u11, u12, u13, u14, u15, u16, u17, u18, u19, u20, u21, u22, u23, u24, u25, u26, u27, u28, u29, u30, u31, u32, u33, u34, u35, u36, u37, u38, u39, u40, u41, u42, u43, u44, u45, u46, u47, u48, u49, u50, u51, u52, u53, u54, u55, u56, u57, u58, u59, u60, u61, u62, u63, u64, u65, u66, u67, u68, u69, u70, u71, u72, u73, u74, u75, u76, u77, u78, u79, u80, u81, u82, u83, u84, u85, u86, u87, u88, u89, u90, u91, u92, u93, u94, u95, u96, u97, u98, u99, u100, u101, u102, u103, u104, u105, u106, u107, u108, u109, u110, u111, u112, u113, u114, u115, u116, u117, u118, u119, u120, u121, u122, u123, u124, u125, u126, u127, u128, u129, u130, u131, u132, u133, u134, u135, u136, u137, u138, u139, u140, u141, u142, u143, u144, u145, u146, u147, u148, u149, u150, u151, u152, u153, u154, u155, u156, u157, u158, u159, u160, u161, u162, u163, u164, u165, u166, u167, u168, u169], defers := [] } V := by
  have HH := Sd.mk h
  have HR := Sd.mk hr
  clear h hr
  refine fromLabel 0 rfl ?_
  go_wp2_with fail
  refine (ends_any _ B s { t with at' := i } told n hs HH.out.sc hi hb hl).mono ?_
  rintro e w1 ⟨⟨k, b, rfl, hk⟩, ⟨p, hs1⟩, ho1⟩
  have HK := Sd.mk hk
  have HS1 := Sd.mk hs1
  have HO1 := Sd.mk (HH.out.only.trans ho1 (fun _ _ h => h))
  have hR1 := HH.out.res.only ho1 (by have := HH.out.lt; omega)
  have HR1 := Sd.mk hR1
  unfold zero5 at hR1
  have b0 := hR1.cell (i := 0) rfl
  have b1 := hR1.cell (i := 1) rfl
  have b2 := hR1.cell (i := 2) rfl
  have b3 := hR1.cell (i := 3) rfl
  have b4 := hR1.cell (i := 4) rfl
  have bf := hR1.frozen
  have bl := hR1.lt
  clear hk hs1 ho1 hR1 HH
  unfold tkV
  go_wp2
  rw [exitTo_ret]
  unfold RdQ RdPost
  refine bodyPost_ret (v := .tuple #[tkV k, .bool b]) ?_ rfl ⟨⟨k, b, rfl, by rw [HR.out]; exact HK.out⟩, ⟨p, by rw [HR.out]; exact HS1.out.putTk HR1.out _ _ _ _ _⟩, HO1.out.putTk _ (fun h => by omega) _ _ _ _ _⟩
  simp [results, Tryd.results24, go_sem, b0, b1, b2, b3, b4, tkV]
end Go.Proofs.YtghlfpeifdikkaaDoor
