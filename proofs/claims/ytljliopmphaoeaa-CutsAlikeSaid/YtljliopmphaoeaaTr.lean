/- The plain law of a tree of cuts: which rules a leaf has, and that the first match is among them. -/
import Derived.Test.YtljliopmphaoeaaW5
namespace Go.Proofs.Ytljliopmphaoeaa
open Go Go.RowKit Go.Proofs.Ytljliopmphaoeaa.Q

/-! ### what lies in a box -/
/-- has the rule of this number the header? -/
def hitI (bs : List Bx) (h : Hdr) (i : Nat) : Bool := match bs[i]? with | none => false | some x => x.has h
theorem inside_find (bs : List Bx) (hbs : ∀ x ∈ bs, x.ck = 0) (b : Bx) (hb : b.ck = 0) (h : Hdr) (hh : b.has h = true) : ∀ l, (insideI bs b l).find? (hitI bs h) = l.find? (hitI bs h)
  | [] => rfl
  | i :: t => by
    have ih := inside_find bs hbs b hb h hh t
    unfold insideI
    cases e : bs[i]? with
    | none =>
      simp only []
      rw [ih, List.find?_cons, show hitI bs h i = false by unfold hitI; rw [e]]
    | some x =>
      have hx := hbs x (List.mem_of_getElem? e)
      have hi : hitI bs h i = x.has h := by unfold hitI; rw [e]
      simp only []
      cases hm : x.meets b with
      | false =>
        rw [if_neg (by simp), ih, List.find?_cons, hi]
        have : x.has h = false := by
          cases hxh : x.has h with
          | false => rfl
          | true => have := Bx.no_meet x b hx hb hm h hxh; rw [hh] at this; cases this
        rw [this]
      | true =>
        rw [if_pos rfl]
        cases hw : b.within x with
        | true =>
          have := Bx.within_has b x hw h hh
          rw [if_pos rfl, List.find?_cons, List.find?_cons, hi, this]
        | false => rw [if_neg (by simp), List.find?_cons, List.find?_cons, ih]
/-! ### a box of one header -/
structure Single (b : Bx) : Prop where
  src : b.src.lo = b.src.hi
  dst : b.dst.lo = b.dst.hi
  sp : b.sp.lo = b.sp.hi
  dp : b.dp.lo = b.dp.hi
  pr : b.pr.c = 255
theorem bit255 (i : Nat) : (255 : Nat).testBit i = decide (i < 8) := by
  rw [show (255 : Nat) = 2 ^ 8 - 1 from rfl, Nat.testBit_two_pow_sub_one]
theorem bit_small {v : Nat} (hv : v < 256) {i : Nat} (h : v.testBit i = true) : i < 8 := by
  cases Nat.lt_or_ge i 8 with
  | inl h => exact h
  | inr hi =>
    have : v.testBit i = false := Nat.testBit_lt_two_pow (Nat.lt_of_lt_of_le hv (by
      have : 2 ^ 8 ≤ 2 ^ i := Nat.pow_le_pow_right (by omega) hi
      simpa using this))
    rw [h] at this; cases this
theorem single_within (x b : Bx) (hx : x.Wf) (hs : Single b) (hm : x.meets b = true) : b.within x = true := by
  unfold Bx.meets at hm
  simp only [Bool.and_eq_true, decide_eq_true_eq] at hm
  obtain ⟨⟨⟨⟨⟨h1, h2⟩, h3⟩, h4⟩, h5⟩, h6⟩ := hm
  have p1 := (Bx.ok_iff x).1 h4
  have p2 := (Bx.ok_iff b).1 h5
  have p3 := (Bx.ok_iff _).1 h6
  have h1' : (x.sp.meet b.sp).ck = 0 := by unfold Spn.meets at h1; simp only [Bool.and_eq_true, decide_eq_true_eq] at h1; exact h1.2
  have h2' : (x.dp.meet b.dp).ck = 0 := by unfold Spn.meets at h2; simp only [Bool.and_eq_true, decide_eq_true_eq] at h2; exact h2.2
  have e3 := (Msk.meets_bit x.pr b.pr p1.2.2.2.2 p2.2.2.2.2).1 h3
  have m3 : b.pr.meets x.pr = true := (Msk.meets_bit b.pr x.pr p2.2.2.2.2 p1.2.2.2.2).2 fun i k1 k2 => (e3 i k2 k1).symm
  have s1 := (Spn.ok_iff _).1 h1'
  have s2 := (Spn.ok_iff _).1 h2'
  have q1 := (Spn.ok_iff _).1 p1.2.2.1
  have q2 := (Spn.ok_iff _).1 p1.2.2.2.1
  have q3 := (Spn.ok_iff _).1 p2.2.2.1
  have q4 := (Spn.ok_iff _).1 p2.2.2.2.1
  simp only [Spn.meet] at s1 s2
  have r1 := p3.1
  have r2 := p3.2.1
  simp only [Bx.join, Run.meet] at r1 r2
  have t1 := hs.src
  have t2 := hs.dst
  have t3 := hs.sp
  have t4 := hs.dp
  have jp : b.pr.join x.pr = b.pr := by
    have hc : b.pr.c ||| x.pr.c = b.pr.c := by
      apply Nat.eq_of_testBit_eq
      intro i
      rw [Nat.testBit_or, hs.pr, bit255]
      cases hb : x.pr.c.testBit i with
      | false => simp
      | true => simp [bit_small hx.pr.c hb]
    have hv : b.pr.v ||| x.pr.v = b.pr.v := by
      apply Nat.eq_of_testBit_eq
      intro i
      rw [Nat.testBit_or]
      cases hb : x.pr.v.testBit i with
      | false => simp
      | true =>
        have k1 := (Msk.ok_bit x.pr).1 p1.2.2.2.2 i hb
        have k2 : b.pr.c.testBit i = true := by rw [hs.pr, bit255]; simp [bit_small hx.pr.v hb]
        rw [← e3 i k1 k2, hb]; rfl
    unfold Msk.join
    rw [hc, hv]
  have jj : b.join x = b := by
    have e1 : b.src.meet x.src = b.src := by
      unfold Run.meet
      rw [show max b.src.lo x.src.lo = b.src.lo by omega, show min b.src.hi x.src.hi = b.src.hi by omega]
    have e2 : b.dst.meet x.dst = b.dst := by
      unfold Run.meet
      rw [show max b.dst.lo x.dst.lo = b.dst.lo by omega, show min b.dst.hi x.dst.hi = b.dst.hi by omega]
    have e3 : b.sp.meet x.sp = b.sp := by
      unfold Spn.meet
      rw [show max b.sp.lo x.sp.lo = b.sp.lo by omega, show min b.sp.hi x.sp.hi = b.sp.hi by omega]
    have e4 : b.dp.meet x.dp = b.dp := by
      unfold Spn.meet
      rw [show max b.dp.lo x.dp.lo = b.dp.lo by omega, show min b.dp.hi x.dp.hi = b.dp.hi by omega]
    unfold Bx.join
    rw [e1, e2, e3, e4, jp]
  unfold Bx.within Bx.meets
  simp only [Bool.and_eq_true, decide_eq_true_eq]
  refine ⟨⟨⟨⟨⟨⟨?_, ?_⟩, m3⟩, h5⟩, h4⟩, by rw [jj]; exact h5⟩, jj⟩
  · unfold Spn.meets
    simp only [Bool.and_eq_true, decide_eq_true_eq]
    exact ⟨⟨p2.2.2.1, p1.2.2.1⟩, (Spn.ok_iff _).2 (by simp only [Spn.meet]; omega)⟩
  · unfold Spn.meets
    simp only [Bool.and_eq_true, decide_eq_true_eq]
    exact ⟨⟨p2.2.2.2.1, p1.2.2.2.1⟩, (Spn.ok_iff _).2 (by simp only [Spn.meet]; omega)⟩
theorem inside_one (bs : List Bx) (hbs : ∀ x ∈ bs, x.Wf) (b : Bx) (hs : Single b) : ∀ l, (insideI bs b l).length ≤ 1
  | [] => Nat.zero_le _
  | i :: t => by
    have ih := inside_one bs hbs b hs t
    unfold insideI
    cases e : bs[i]? with
    | none => exact ih
    | some x =>
      simp only []
      cases hm : x.meets b with
      | false => rw [if_neg (by simp)]; exact ih
      | true =>
        have := single_within x b (hbs x (List.mem_of_getElem? e)) hs hm
        rw [if_pos rfl, if_pos this]
        exact Nat.le_refl _

/-! ### the ways to cut -/
/-- a box that a node may have -/
structure Good (b : Bx) : Prop where
  wf : b.Wf
  ck : b.ck = 0
/-- two halves of a box, and which headers go to the first -/
structure CutOk (b x y : Bx) (f : Hdr → Bool) : Prop where
  gx : Good x
  gy : Good y
  hx : ∀ h, b.has h = true → f h = true → x.has h = true
  hy : ∀ h, b.has h = true → f h = false → y.has h = true
theorem cut0_law (b : Bx) (hb : Good b) (mid m1 : Nat) (he : b.src.lo < b.src.hi) (hm : mid = b.src.lo + (b.src.hi - b.src.lo) / 2) (hm1 : m1 = mid + 1) :
    CutOk b ⟨⟨b.src.lo, mid⟩, b.dst, b.sp, b.dp, b.pr⟩ ⟨⟨m1, b.src.hi⟩, b.dst, b.sp, b.dp, b.pr⟩ (fun h => decide (h.src ≤ mid)) := by
  have k := (Bx.ok_iff b).1 hb.ck
  have w := hb.wf
  have ws := w.src
  have w1 := ws.lo
  have w2 := ws.hi
  refine ⟨⟨⟨⟨w1, by simp only; omega⟩, w.dst, w.sp, w.dp, w.pr⟩, (Bx.ok_iff _).2 ⟨by simp only; omega, k.2⟩⟩, ⟨⟨⟨by simp only; omega, w2⟩, w.dst, w.sp, w.dp, w.pr⟩, (Bx.ok_iff _).2 ⟨by simp only; omega, k.2⟩⟩, fun h h1 h2 => ?_, fun h h1 h2 => ?_⟩
  all_goals
    unfold Bx.has at *
    simp only [Bool.and_eq_true] at *
    obtain ⟨⟨⟨⟨e1, e2⟩, e3⟩, e4⟩, e5⟩ := h1
    refine ⟨⟨⟨⟨?_, e2⟩, e3⟩, e4⟩, e5⟩
    unfold Run.has at *
    simp only [Bool.and_eq_true, decide_eq_true_eq, decide_eq_false_iff_not] at *
    omega
theorem cut1_law (b : Bx) (hb : Good b) (mid m1 : Nat) (he : b.dst.lo < b.dst.hi) (hm : mid = b.dst.lo + (b.dst.hi - b.dst.lo) / 2) (hm1 : m1 = mid + 1) :
    CutOk b ⟨b.src, ⟨b.dst.lo, mid⟩, b.sp, b.dp, b.pr⟩ ⟨b.src, ⟨m1, b.dst.hi⟩, b.sp, b.dp, b.pr⟩ (fun h => decide (h.dst ≤ mid)) := by
  have k := (Bx.ok_iff b).1 hb.ck
  have w := hb.wf
  have ws := w.dst
  have w1 := ws.lo
  have w2 := ws.hi
  refine ⟨⟨⟨w.src, ⟨w1, by simp only; omega⟩, w.sp, w.dp, w.pr⟩, (Bx.ok_iff _).2 ⟨k.1, by simp only; omega, k.2.2⟩⟩, ⟨⟨w.src, ⟨by simp only; omega, w2⟩, w.sp, w.dp, w.pr⟩, (Bx.ok_iff _).2 ⟨k.1, by simp only; omega, k.2.2⟩⟩, fun h h1 h2 => ?_, fun h h1 h2 => ?_⟩
  all_goals
    unfold Bx.has at *
    simp only [Bool.and_eq_true] at *
    obtain ⟨⟨⟨⟨e1, e2⟩, e3⟩, e4⟩, e5⟩ := h1
    refine ⟨⟨⟨⟨e1, ?_⟩, e3⟩, e4⟩, e5⟩
    unfold Run.has at *
    simp only [Bool.and_eq_true, decide_eq_true_eq, decide_eq_false_iff_not] at *
    omega
theorem cut2_law (b : Bx) (hb : Good b) (mid m1 : Nat) (he : b.sp.lo < b.sp.hi) (hm : mid = b.sp.lo + (b.sp.hi - b.sp.lo) / 2) (hm1 : m1 = mid + 1) :
    CutOk b ⟨b.src, b.dst, ⟨b.sp.lo, mid⟩, b.dp, b.pr⟩ ⟨b.src, b.dst, ⟨m1, b.sp.hi⟩, b.dp, b.pr⟩ (fun h => decide (h.sp ≤ mid)) := by
  have k := (Bx.ok_iff b).1 hb.ck
  have w := hb.wf
  have ws := w.sp
  have w1 := ws.lo
  have w2 := ws.hi
  refine ⟨⟨⟨w.src, w.dst, ⟨w1, by simp only; omega⟩, w.dp, w.pr⟩, (Bx.ok_iff _).2 ⟨k.1, k.2.1, (Spn.ok_iff _).2 (by simp only; omega), k.2.2.2⟩⟩, ⟨⟨w.src, w.dst, ⟨by simp only; omega, w2⟩, w.dp, w.pr⟩, (Bx.ok_iff _).2 ⟨k.1, k.2.1, (Spn.ok_iff _).2 (by simp only; omega), k.2.2.2⟩⟩, fun h h1 h2 => ?_, fun h h1 h2 => ?_⟩
  all_goals
    unfold Bx.has at *
    simp only [Bool.and_eq_true] at *
    obtain ⟨⟨⟨⟨e1, e2⟩, e3⟩, e4⟩, e5⟩ := h1
    refine ⟨⟨⟨⟨e1, e2⟩, ?_⟩, e4⟩, e5⟩
    unfold Spn.has at *
    simp only [Bool.and_eq_true, decide_eq_true_eq, decide_eq_false_iff_not] at *
    omega
theorem cut3_law (b : Bx) (hb : Good b) (mid m1 : Nat) (he : b.dp.lo < b.dp.hi) (hm : mid = b.dp.lo + (b.dp.hi - b.dp.lo) / 2) (hm1 : m1 = mid + 1) :
    CutOk b ⟨b.src, b.dst, b.sp, ⟨b.dp.lo, mid⟩, b.pr⟩ ⟨b.src, b.dst, b.sp, ⟨m1, b.dp.hi⟩, b.pr⟩ (fun h => decide (h.dp ≤ mid)) := by
  have k := (Bx.ok_iff b).1 hb.ck
  have w := hb.wf
  have ws := w.dp
  have w1 := ws.lo
  have w2 := ws.hi
  refine ⟨⟨⟨w.src, w.dst, w.sp, ⟨w1, by simp only; omega⟩, w.pr⟩, (Bx.ok_iff _).2 ⟨k.1, k.2.1, k.2.2.1, (Spn.ok_iff _).2 (by simp only; omega), k.2.2.2.2⟩⟩, ⟨⟨w.src, w.dst, w.sp, ⟨by simp only; omega, w2⟩, w.pr⟩, (Bx.ok_iff _).2 ⟨k.1, k.2.1, k.2.2.1, (Spn.ok_iff _).2 (by simp only; omega), k.2.2.2.2⟩⟩, fun h h1 h2 => ?_, fun h h1 h2 => ?_⟩
  all_goals
    unfold Bx.has at *
    simp only [Bool.and_eq_true] at *
    obtain ⟨⟨⟨⟨e1, e2⟩, e3⟩, e4⟩, e5⟩ := h1
    refine ⟨⟨⟨⟨e1, e2⟩, e3⟩, ?_⟩, e5⟩
    unfold Spn.has at *
    simp only [Bool.and_eq_true, decide_eq_true_eq, decide_eq_false_iff_not] at *
    omega
/-- the highest bit that is free -/
theorem free_bit : ∀ c : Fin 255, ∃ j, j < 8 ∧ Lib.bitLen (255 - c.val) = j + 1 ∧ c.val.testBit j = false ∧ 128 >>> (8 - (j + 1)) = 2 ^ j := by decide +kernel
theorem cut4_law (b : Bx) (hb : Good b) (k bit cb vb : Nat) (he : b.pr.c < 255) (hk : k + Lib.bitLen (255 - b.pr.c) = 8) (hbit : bit = 128 >>> k) (hcb : cb = b.pr.c ||| bit) (hvb : vb = b.pr.v ||| bit) :
    CutOk b ⟨b.src, b.dst, b.sp, b.dp, ⟨b.pr.v, cb⟩⟩ ⟨b.src, b.dst, b.sp, b.dp, ⟨vb, cb⟩⟩ (fun h => decide (h.pr &&& bit = 0)) := by
  have kk := (Bx.ok_iff b).1 hb.ck
  have w := hb.wf
  obtain ⟨j, hj, h1, h2, h3⟩ := free_bit ⟨b.pr.c, he⟩
  simp only at h1 h2 h3
  have hbj : bit = 2 ^ j := by rw [hbit, ← h3]; congr 1; omega
  have hlt : bit < 2 ^ 8 := by rw [hbj]; exact Nat.pow_lt_pow_right (by omega) hj
  have tb : ∀ i, bit.testBit i = decide (j = i) := fun i => by rw [hbj, Nat.testBit_two_pow]
  have wc : cb < 256 := by rw [hcb]; exact Nat.or_lt_two_pow (n := 8) w.pr.c hlt
  have wv : vb < 256 := by rw [hvb]; exact Nat.or_lt_two_pow (n := 8) w.pr.v hlt
  have kp := (Msk.ok_bit b.pr).1 kk.2.2.2.2
  have zb : ∀ x : Nat, (x &&& bit = 0) ↔ x.testBit j = false := fun x => by
    constructor
    · intro h
      have := congrArg (fun n => n.testBit j) h
      simp only [Nat.testBit_and, tb, Nat.zero_testBit] at this
      simpa using this
    · intro h
      apply Nat.eq_of_testBit_eq
      intro i
      rw [Nat.testBit_and, tb, Nat.zero_testBit]
      by_cases hi : j = i
      · subst hi; simp [h]
      · simp [hi]
  refine ⟨⟨⟨w.src, w.dst, w.sp, w.dp, ⟨w.pr.v, wc⟩⟩, (Bx.ok_iff _).2 ⟨kk.1, kk.2.1, kk.2.2.1, kk.2.2.2.1, (Msk.ok_bit _).2 fun i hi => ?_⟩⟩, ⟨⟨w.src, w.dst, w.sp, w.dp, ⟨wv, wc⟩⟩, (Bx.ok_iff _).2 ⟨kk.1, kk.2.1, kk.2.2.1, kk.2.2.2.1, (Msk.ok_bit _).2 fun i hi => ?_⟩⟩, fun h h1 h2 => ?_, fun h h1 h2 => ?_⟩
  · simp only at *
    rw [hcb, Nat.testBit_or, kp i hi]; rfl
  · simp only at *
    rw [hvb, Nat.testBit_or] at hi
    rw [hcb, Nat.testBit_or]
    cases hv : b.pr.v.testBit i with
    | true => rw [kp i hv]; rfl
    | false => rw [hv] at hi; simp only [Bool.false_or] at hi; rw [hi]; simp
  · unfold Bx.has at *
    simp only [Bool.and_eq_true, decide_eq_true_eq, zb] at *
    refine ⟨h1.1, (Msk.has_bit _ _).2 fun i => ?_⟩
    have e := (Msk.has_bit _ _).1 h1.2 i
    simp only
    rw [hcb, Nat.testBit_or, tb, ← e]
    by_cases hi : j = i
    · subst hi; simp [*]
    · simp [hi]
  · unfold Bx.has at *
    simp only [Bool.and_eq_true, decide_eq_false_iff_not, zb, Bool.not_eq_false] at *
    refine ⟨h1.1, (Msk.has_bit _ _).2 fun i => ?_⟩
    have e := (Msk.has_bit _ _).1 h1.2 i
    simp only
    rw [hcb, hvb, Nat.testBit_or, Nat.testBit_or, tb, ← e]
    by_cases hi : j = i
    · subst hi; simp [*]
    · simp [hi]
end Go.Proofs.Ytljliopmphaoeaa
