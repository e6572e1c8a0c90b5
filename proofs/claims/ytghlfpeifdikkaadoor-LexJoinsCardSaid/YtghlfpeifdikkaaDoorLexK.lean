/- The document's examples, as the statements ask them first. -/
import Derived.Test.YtghlfpeifdikkaaDoorLexW
import Derived.Test.YtghlfpeifdikkaaDoorLexLaid
namespace Go.Proofs.YtghlfpeifdikkaaDoor
open Go.RowKit Go.Proofs.YtghlfpeifdikkaaDoor.Lex

def ex1 : ByteArray := ⟨#[114, 117, 108, 101, 32, 55, 58, 32, 49, 48, 46, 48, 46, 48, 46, 48, 47, 56, 32, 35, 32, 120, 10, 42]⟩
def ex2 : ByteArray := ⟨#[97, 45, 98]⟩
def tkT (k : Tk) : Nat × Array UInt8 × Nat × Nat × Nat := (k.kind, k.text.data, k.value, k.line, k.col)
theorem tk_of {l : List Tk} {i a c d e : Nat} {b : Array UInt8} (h : (l[i]?).map tkT = some (a, b, c, d, e)) : ∃ hi : i < l.length, l[i] = ⟨a, ⟨b⟩, c, d, e⟩ := by
  obtain ⟨k, hk, ht⟩ := Option.map_eq_some_iff.1 h
  obtain ⟨hi, hx⟩ := List.getElem?_eq_some_iff.1 hk
  refine ⟨hi, ?_⟩
  rw [hx]
  obtain ⟨k0, ⟨k1⟩, k2, k3, k4⟩ := k
  simp only [tkT, Prod.mk.injEq] at ht
  obtain ⟨rfl, rfl, rfl, rfl, rfl⟩ := ht
  rfl
theorem ex1_code : (all ex1).2.code = 0 := by decide +kernel
theorem ex1_len : (all ex1).1.length = 15 := by decide +kernel
theorem ex1_0 : ((all ex1).1[0]?).map tkT = some (1, #[114, 117, 108, 101], 0, 1, 1) := by decide +kernel
theorem ex1_1 : ((all ex1).1[1]?).map tkT = some (2, #[55], 7, 1, 6) := by decide +kernel
theorem ex1_14 : ((all ex1).1[14]?).map tkT = some (4, #[], 0, 2, 2) := by decide +kernel
theorem ex2_wr : (all ex2).2.code = 90 ∧ (all ex2).2.line = 1 ∧ (all ex2).2.col = 2 := by decide +kernel

set_option maxHeartbeats 2000000 in
set_option maxRecDepth 100000 in
theorem awake_any (w : World) (hE : ET w) : Calls Tryd.prog 14 #[] w fun e w' => e = .returned (.bool true) ∧ Below w.heap.size w w' := by
  have H1 := Sd.mk (lexAll_any ex1 w (by decide))
  have HE := Sd.mk hE
  clear hE
  go_enter Tryd.func14, Tryd.ntmps14
  go_wp2_with fail
  refine H1.out.mono ?_
  rintro e w1 ⟨lv, ev, rfl, hev, hown, hb1⟩
  rw [if_pos ex1_code] at hown
  have hev1 : ev = .nilIface := by
    rcases hev with ⟨_, h⟩ | ⟨h, _⟩
    · exact h
    · exact absurd ex1_code h
  subst hev1
  have H2 := Sd.mk (lexAll_any ex2 w1 (by decide))
  have HO := Sd.mk hown
  have HB1 := Sd.mk hb1
  clear hev hown hb1
  go_wp2_with fail
  refine H2.out.mono ?_
  rintro e w2 ⟨lv2, ev2, rfl, hev2, _, hb2⟩
  obtain ⟨x1, x2, x3⟩ := ex2_wr
  rcases hev2 with ⟨h, _⟩ | ⟨_, F, rfl, hF, hFb⟩
  · rw [x1] at h; cases h
  · rw [x1, x2, x3] at hFb
    have HB2 := Sd.mk hb2
    have HI := Sd.mk (keepIs_hit F 90 1 2 w2 (by decide) ((HE.out.move HB1.out).move hb2) hFb)
    have HO2 := Sd.mk (ownsRow_below HO.out hb2 (fun g e => (HO.out.lt g e).2))
    obtain ⟨A, cap, rfl⟩ := own_slice HO.out
    clear hb2 hFb x1 x2 x3 hF
    rw [ex1_len]
    go_wp2_with fail
    refine HI.out.mono ?_
    rintro e w3 ⟨rfl, hb3⟩
    have hown3 := ownsRow_below HO2.out hb3 (fun g e => (HO2.out.lt g e).2)
    rcases own_cells hown3 with ⟨_, h⟩ | ⟨g, cap', hv, hg1, hg2, hc1, hc2, hcell⟩
    · have := ex1_len; rw [h] at this; cases this
    · obtain ⟨i0, e0⟩ := tk_of ex1_0
      obtain ⟨i1, e1⟩ := tk_of ex1_1
      obtain ⟨i2, e2⟩ := tk_of ex1_14
      obtain ⟨a0, a1, a2, a3, a4⟩ := hcell 0 i0
      obtain ⟨b0, b1, b2, b3, b4⟩ := hcell 1 i1
      obtain ⟨c0, c1, c2, c3, c4⟩ := hcell 14 i2
      rw [e0] at a0 a1 a2 a3 a4
      rw [e1] at b0 b1 b2 b3 b4
      rw [e2] at c0 c1 c2 c3 c4
      simp only [Nat.reduceMul, Nat.reduceAdd, Nat.zero_mul, Nat.zero_add, Nat.one_mul] at a0 a1 a2 a3 a4 b0 b1 b2 b3 b4 c0 c1 c2 c3 c4
      have HB := Sd.mk ((HB1.out.trans (HB2.out.mono HB1.out.size)).trans (hb3.mono (Nat.le_trans HB1.out.size HB2.out.size)))
      rw [ex1_len] at hv
      obtain rfl : A = some ⟨g, 0, none⟩ := by simp at hv; exact hv.1
      clear hcell e0 e1 e2 i0 i1 i2 hown3 hb3 hv hc1 hc2
      go_wp2
      go_ret
      exact ⟨rfl, HB.out⟩
end Go.Proofs.YtghlfpeifdikkaaDoor
