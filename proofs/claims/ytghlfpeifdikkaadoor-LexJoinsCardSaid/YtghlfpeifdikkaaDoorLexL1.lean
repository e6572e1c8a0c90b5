/- The statement LexAll, walked: for any text it returns true. -/
import Derived.Test.YtghlfpeifdikkaaDoorLexK
namespace Go.Proofs.YtghlfpeifdikkaaDoor
open Go.RowKit Go.Proofs.YtghlfpeifdikkaaDoor.Lex

/-- a list of its own has room for as many tokens as it says -/
def Room (w : World) (A : Option Addr) (cap : Nat) : Prop := (A = none ∧ cap = 0) ∨ ∃ g cur, A = some ⟨g, 0, none⟩ ∧ Blk w g cur 38 ∧ cur.size = cap * 5
theorem own_room {w : World} {B n cap : Nat} {A : Option Addr} {l : List Tk} (h : Own w B (.slice A n cap) l) : Room w A cap := by
  rcases h.2 with ⟨h1, _⟩ | ⟨g, c, cur, h1, h2, h3, h4, h5, h6, h7⟩
  · simp at h1; exact .inl ⟨h1.1, h1.2.2⟩
  · simp at h1; obtain ⟨rfl, _, rfl⟩ := h1
    exact .inr ⟨g, cur, rfl, h3, h6⟩
theorem own_cap {w : World} {B n cap : Nat} {A : Option Addr} {l : List Tk} (h : Own w B (.slice A n cap) l) : cap ≤ maxLen ∧ n ≤ cap ∧ n = l.length := by
  rcases h.2 with ⟨h1, h2⟩ | ⟨g, c, cur, h1, h2, h3, h4, h5, h6, h7⟩
  · simp at h1; exact ⟨by unfold maxLen; omega, by omega, by omega⟩
  · simp at h1; obtain ⟨_, h8, rfl⟩ := h1; exact ⟨h5, by omega, h8⟩
theorem room_cell {w : World} {g cap : Nat} {cur : Array Value} (h : Blk w g cur 38) (hs : cur.size = cap * 5) {k f : Nat} (hk : k < cap) (hf : f < 5) : ∃ u, w.cell? ⟨g, k * 5 + f, none⟩ = some u :=
  ⟨_, h.cell (Array.getElem?_eq_getElem (by omega))⟩
/-- ahead of a round that writes over the list: all else is as it was -/
structure Over (W : World) (A : Option Addr) (cap : Nat) (wr : World) : Prop where
  room : Room wr A cap
  only : Only W wr (fun b => A = some ⟨b, 0, none⟩)
theorem Over.put {W wr : World} {g cap : Nat} (h : Over W (some ⟨g, 0, none⟩) cap wr) (k : Nat) (a b c d e : Value) :
    Over W (some ⟨g, 0, none⟩) cap (((((wr.setCell ⟨g, k, none⟩ a).setCell ⟨g, k + 1, none⟩ b).setCell ⟨g, k + 2, none⟩ c).setCell ⟨g, k + 3, none⟩ d).setCell ⟨g, k + 4, none⟩ e) := by
  rcases h.room with ⟨h1, _⟩ | ⟨g2, cur, h1, h2, h3⟩
  · cases h1
  · obtain rfl : g = g2 := by simpa using h1
    refine ⟨.inr ⟨g, _, rfl, ((((h2.set k a).set (k + 1) b).set (k + 2) c).set (k + 3) d).set (k + 4) e, by simp [h3]⟩, ?_⟩
    exact (((((h.only.setCell ⟨g, k, none⟩ a (fun _ => rfl)).setCell ⟨g, k + 1, none⟩ b (fun _ => rfl)).setCell ⟨g, k + 2, none⟩ c (fun _ => rfl)).setCell ⟨g, k + 3, none⟩ d (fun _ => rfl)).setCell ⟨g, k + 4, none⟩ e (fun _ => rfl))

theorem ErrV.keep {x : Wr} {L : Nat} {w w' : World} {v : Value} (h : ErrV x L w v) (hk : ∀ F, Blk w F #[.int .i64 x.code, .int .i64 x.line, .int .i64 x.col] 59 → Blk w' F #[.int .i64 x.code, .int .i64 x.line, .int .i64 x.col] 59) : ErrV x L w' v := by
  rcases h with h | ⟨h1, F, h2, h3, h4⟩
  · exact .inl h
  · exact .inr ⟨h1, F, h2, h3, hk F h4⟩
theorem keepIs_err (x : Wr) (L : Nat) (w : World) (ev : Value) (h : ErrV x L w ev) (hE : ET w) : Calls Tryd.prog 12 #[ev, .int .i64 x.code, .int .i64 x.line, .int .i64 x.col] w fun e w' => e = .returned (.bool true) ∧ Below w.heap.size w w' := by
  rcases h with ⟨h1, rfl⟩ | ⟨h1, F, rfl, _, hF⟩
  · rw [h1]; exact (keepIs_ok _ _ w).mono fun e w' ⟨he, hw⟩ => ⟨he, by rw [← hw]; exact Below.refl _ _⟩
  · exact keepIs_hit F _ _ _ w (by omega) hE hF
theorem keepTurn_err (x : Wr) (L : Nat) (w : World) (ev : Value) (h : ErrV x L w ev) (hE : ET w) (hL : L ≤ w.heap.size) : Calls Tryd.prog 13 #[ev] w fun e w' => e = .returned (.tuple #[]) ∧ Below L w w' ∧ ∀ B cs T, T ≠ 59 → Blk w B cs T → Blk w' B cs T := by
  rcases h with ⟨h1, rfl⟩ | ⟨h1, F, rfl, h2, hF⟩
  · exact (keepTurn_ok w).mono fun e w' ⟨he, hb⟩ => ⟨he, hb.mono hL, fun B cs T _ hB => hB.below hb hB.lt⟩
  · exact (keepTurn_hit F _ _ _ w hE hF).mono fun e w' ⟨he, hb, hl⟩ => ⟨he, hl L h2, fun B cs T hT hB => (hb B hB.lt (hB.ne hF hT)).trans hB⟩
theorem own_move {w w' : World} {B : Nat} {v : Value} {l : List Tk} (h : Own w B v l) (hk : ∀ g cs, v.ownBlock = some g → Blk w g cs 38 → Blk w' g cs 38) : Own w' B v l := by
  obtain ⟨h1, h2⟩ := h
  refine ⟨h1, ?_⟩
  rcases h2 with h2 | ⟨g, cap, cur, rfl, r2, r3, r⟩
  · exact .inl h2
  · exact .inr ⟨g, cap, cur, rfl, r2, hk g cur rfl r3, r⟩
theorem ET.drewN {w : World} (h : ET w) (n : Nat) : ET (w.drewN n) := h
set_option maxHeartbeats 1000000 in
theorem LawAll_big (s : ByteArray) (w : World) (hbig : 16777216 < s.size) : Calls Tryd.prog 3 #[.string s] w fun e w' => e = .returned (.bool true) ∧ Below w.heap.size w w' := by
  go_enter Tryd.func3, Tryd.ntmps3
  go_wp2
  go_ret
  exact ⟨rfl, Below.refl _ _⟩
set_option maxHeartbeats 4000000 in
set_option maxRecDepth 100000 in
theorem LawAll_ok (s : ByteArray) (w : World) (hbig : s.size ≤ 16777216) (hE : ET w) (T : List Tk) (x : Wr) (hx : all s = (T, x)) (hc : x.code = 0) : Calls Tryd.prog 3 #[.string s] w fun e w' => e = .returned (.bool true) ∧ Below w.heap.size w w' := by
  have HE := Sd.mk hE
  have hT : (T).length ≤ 65537 := by have := all_len s; rw [hx] at this; first | exact this | simp
  have H1 := Sd.mk (refAll_any s w (by omega))
  have H2 : ∀ w, Calls Tryd.prog 10 #[.string s] w fun e w' => ∃ lv ev, e = .returned (.tuple #[lv, ev]) ∧ ErrV x w.heap.size w' ev ∧ Own w' w.heap.size lv T ∧ Below w.heap.size w w' := fun w => by
    have := lexAll_any s w (by omega)
    unfold LexAllOut at this
    rw [hx] at this
    simp only at this
    rw [if_pos hc] at this
    exact this
  have H2 := Sd.mk H2
  unfold AllOut wrV at H1
  rw [hx] at H1
  have ec : ((x.code : Int) != 0) = false := by simp; omega
  have HC := Sd.mk hc
  clear hE hx hc
  go_enter Tryd.func3, Tryd.ntmps3
  go_wp2_with fail
  refine H1.out.mono ?_
  rintro e w1 ⟨v1, rfl, hown1, hb1⟩
  have hbx : Blk (w1.alloc (.cells #[.int .i64 x.code, .int .i64 x.line, .int .i64 x.col] 25)) w1.heap.size #[.int .i64 x.code, .int .i64 x.line, .int .i64 x.col] 25 := Blk.new _ _ _
  have HO1 := Sd.mk (World.ownsRow.alloc hown1 (.cells #[.int .i64 x.code, .int .i64 x.line, .int .i64 x.col] 25))
  have HB1 := Sd.mk (hb1.alloc hb1.size (.cells #[.int .i64 x.code, .int .i64 x.line, .int .i64 x.col] 25))
  have HBX := Sd.mk hbx
  clear hown1 hb1 hbx
  go_wp2_with fail
  obtain ⟨nB, hnB⟩ : ∃ nB, w1.heap.size = nB := ⟨_, rfl⟩
  generalize w1.alloc (.cells #[.int .i64 x.code, .int .i64 x.line, .int .i64 x.col] 25) = W1 at *
  rw [hnB] at HBX ⊢
  clear hnB
  refine (H2.out W1).mono ?_
  rintro e w2 ⟨lv, ev, rfl, hev, hown2, hb2⟩
  have hbx2 := HBX.out.below hb2 HBX.out.lt
  have c0 := hbx2.cell (i := 0) rfl
  have c1 := hbx2.cell (i := 1) rfl
  have c2 := hbx2.cell (i := 2) rfl
  have HBX2 := Sd.mk hbx2
  have HB2 := Sd.mk hb2
  have HO2 := Sd.mk hown2
  have HEV := Sd.mk hev
  have HW : Sd (Own w2 w.heap.size (v1) T) := ⟨ownsRow_below HO1.out hb2 (fun g e => (HO1.out.lt g e).2)⟩
  obtain ⟨A, cap, rfl⟩ := own_slice hown2
  have HET2 := Sd.mk ((HE.out.move HB1.out).move hb2)
  clear hb2 hown2 hbx2 hev
  go_wp2_with fail
  refine (same_any (T) _ _ _ _ _ HO2.out HW.out (by omega)).mono ?_
  rintro e w3 ⟨rfl, n3, rfl⟩
  go_wp2_with fail
  refine (keepIs_err x W1.heap.size _ ev (HEV.out.keep (fun F h => h.drewN n3)) (HET2.out.drewN n3)).mono ?_
  rintro e w4 ⟨rfl, hb4⟩
  have HB4 : Sd (Below w2.heap.size w2 w4) := ⟨(show Below w2.heap.size w2 (w2.drewN n3) from ⟨rfl, rfl, rfl, Nat.le_refl _, fun _ _ => rfl⟩).trans hb4⟩
  have HEV4 := Sd.mk (HEV.out.keep (fun F h => h.below HB4.out h.lt))
  have HET4 := Sd.mk (HET2.out.move HB4.out)
  have hs24 := HB4.out.size
  have hs12 := HB2.out.size
  clear hb4 c0 c1 c2
  go_wp2_with fail
  refine (keepTurn_err x W1.heap.size w4 ev HEV4.out HET4.out (by omega)).mono ?_
  rintro e w5 ⟨rfl, hb5, hk5⟩
  have HB5 := Sd.mk hb5
  have HBX5 := Sd.mk (hk5 _ _ _ (by decide) (HBX2.out.below HB4.out HBX2.out.lt))
  have HO5 := Sd.mk (own_move (ownsRow_below HO2.out HB4.out (fun g e => (HO2.out.lt g e).2)) (fun g cs _ h => hk5 g cs _ (by decide) h))
  have HW5 := Sd.mk (own_move (ownsRow_below HW.out HB4.out (fun g e => (HW.out.lt g e).2)) (fun g cs _ h => hk5 g cs _ (by decide) h))
  have HAp : Sd (∀ g, (v1).ownBlock = some g → A ≠ some ⟨g, 0, none⟩) := ⟨fun g e h => by have h3 := (HO1.out.lt g e).2; have h4 := (HO2.out.lt g (by rw [h]; rfl)).1; omega⟩
  have hcap : cap ≤ 9223372036854775807 := (own_cap HO5.out).1
  have hcap2 := (own_cap HO5.out).2.1
  have HRm := Sd.mk (own_room HO5.out)
  have hb15 : Sd (Below w.heap.size w w5) := ⟨((HB1.out.trans (HB2.out.mono HB1.out.size)).trans (HB4.out.mono (by have := HB1.out.size; omega))).trans (HB5.out.mono HB1.out.size)⟩
  have HET5 := Sd.mk (HE.out.move hb15.out)
  clear hb5 hk5
  have HA0 : Sd (∀ g, A = some ⟨g, 0, none⟩ → W1.heap.size ≤ g) := ⟨fun g e => (HO5.out.lt g (by rw [e]; rfl)).1⟩
  have hszs : Sd (w.heap.size ≤ W1.heap.size ∧ W1.heap.size ≤ w5.heap.size) := ⟨HB1.out.size, by have := HB5.out.size; omega⟩
  clear hs24 hs12
  go_wp2
  go_loopw [7] (fun i wr => ∃ k : Nat, k ≤ cap ∧ i = .int .i64 k ∧ Sd (Over w5 A cap wr)) (fun i _ => cap - (intOf i).toNat)
  case atStart => exact ⟨0, by omega, rfl, ⟨HRm.out, Only.refl _ _⟩⟩
  case round =>
    obtain ⟨k, hk, rfl, HOv⟩ := hrel
    by_cases hlt : k < cap
    · rcases HOv.out.room with ⟨_, h⟩ | ⟨g, cur, rfl, hg, hsz⟩
      · omega
      · obtain ⟨u0, a0⟩ := room_cell hg hsz hlt (f := 0) (by omega)
        obtain ⟨u1, a1⟩ := room_cell hg hsz hlt (f := 1) (by omega)
        obtain ⟨u2, a2⟩ := room_cell hg hsz hlt (f := 2) (by omega)
        obtain ⟨u3, a3⟩ := room_cell hg hsz hlt (f := 3) (by omega)
        obtain ⟨u4, a4⟩ := room_cell hg hsz hlt (f := 4) (by omega)
        have af := hg.frozen
        clear hg hsz
        rw [Nat.add_zero] at a0
        go_wp2
        go_roundw
        case rel => exact ⟨k + 1, by omega, by go_num, ⟨HOv.out.put (k * 5) _ _ _ _ _⟩⟩
        case measure => simp [intOf]; omega
    · have HNl := Sd.mk hlt
      go_wp2_with fail
      have HWr := Sd.mk (ownsRow_only HW5.out HOv.out.only (fun g e h => HAp.out g e h))
      have hb5r : Sd (Below w.heap.size w5 wr) := ⟨HOv.out.only.below w.heap.size (Nat.le_trans hszs.out.1 hszs.out.2) (fun g e => Nat.le_trans hszs.out.1 (HA0.out g e))⟩
      have HBXr : Sd (Blk wr nB #[.int .i64 x.code, .int .i64 x.line, .int .i64 x.col] 25) := ⟨HBX5.out.only HOv.out.only (fun e => by
        rcases HRm.out with ⟨h, _⟩ | ⟨g, cur, h, hg, _⟩
        · rw [h] at e; cases e
        · rw [h] at e
          have : g = nB := by simpa using e
          exact (HBX5.out.ne hg (by decide)) this.symm)⟩
      refine (H2.out wr).mono ?_
      rintro e w6 ⟨mv, ev6, rfl, hev6, hown6, hb6⟩
      have HET6 := Sd.mk (((HE.out.move (hb15.out.trans hb5r.out))).move hb6)
      obtain ⟨A6, cap6, rfl⟩ := own_slice hown6
      have HEV6 := Sd.mk hev6
      have HO6 := Sd.mk hown6
      have HW6 := Sd.mk (ownsRow_below HWr.out hb6 (fun g e => (HWr.out.lt g e).2))
      have HBX6 := Sd.mk (HBXr.out.below hb6 HBXr.out.lt)
      have HB6 : Sd (Below w.heap.size w w6) := ⟨(hb15.out.trans hb5r.out).trans (hb6.mono (hb15.out.trans hb5r.out).size)⟩
      clear hev6 hown6 hb6
      go_wp2_with fail
      refine (awake_any w6 HET6.out).mono ?_
      rintro e w7 ⟨rfl, hb7⟩
      have HB7 := Sd.mk hb7
      have hbx7 := HBX6.out.below hb7 HBX6.out.lt
      have c0 := hbx7.cell (i := 0) rfl
      have c1 := hbx7.cell (i := 1) rfl
      have c2 := hbx7.cell (i := 2) rfl
      clear hb7 hbx7
      go_wp2_with fail
      refine (same_any (T) _ _ _ _ w7 (ownsRow_below HO6.out HB7.out (fun g e => (HO6.out.lt g e).2)) (ownsRow_below HW6.out HB7.out (fun g e => (HW6.out.lt g e).2)) (by omega)).mono ?_
      rintro e w8 ⟨rfl, n8, rfl⟩
      go_wp2_with fail
      refine (keepIs_err x wr.heap.size _ ev6 ((HEV6.out.keep (fun F h => h.below HB7.out h.lt)).keep (fun F h => h.drewN n8)) ((HET6.out.move HB7.out).drewN n8)).mono ?_
      rintro e w9 ⟨rfl, hb9⟩
      have HB9 : Sd (Below w.heap.size w w9) := ⟨(HB6.out.trans (HB7.out.mono HB6.out.size)).trans (((show Below w7.heap.size w7 (w7.drewN n8) from ⟨rfl, rfl, rfl, Nat.le_refl _, fun _ _ => rfl⟩).trans hb9).mono (Nat.le_trans HB6.out.size HB7.out.size))⟩
      clear hb9
      go_wp2
      go_ret
      exact ⟨rfl, HB9.out⟩
set_option maxHeartbeats 4000000 in
set_option maxRecDepth 100000 in
theorem LawAll_wrong (s : ByteArray) (w : World) (hbig : s.size ≤ 16777216) (hE : ET w) (T : List Tk) (x : Wr) (hx : all s = (T, x)) (hc : x.code ≠ 0) : Calls Tryd.prog 3 #[.string s] w fun e w' => e = .returned (.bool true) ∧ Below w.heap.size w w' := by
  have HE := Sd.mk hE
  have hT : (([] : List Tk)).length ≤ 65537 := by have := all_len s; rw [hx] at this; first | exact this | simp
  have H1 := Sd.mk (refAll_any s w (by omega))
  have H2 : ∀ w, Calls Tryd.prog 10 #[.string s] w fun e w' => ∃ lv ev, e = .returned (.tuple #[lv, ev]) ∧ ErrV x w.heap.size w' ev ∧ Own w' w.heap.size lv ([] : List Tk) ∧ Below w.heap.size w w' := fun w => by
    have := lexAll_any s w (by omega)
    unfold LexAllOut at this
    rw [hx] at this
    simp only at this
    rw [if_neg hc] at this
    exact this
  have H2 := Sd.mk H2
  unfold AllOut wrV at H1
  rw [hx] at H1
  have ec : ((x.code : Int) != 0) = true := by simp; omega
  have HC := Sd.mk hc
  clear hE hx hc
  go_enter Tryd.func3, Tryd.ntmps3
  go_wp2_with fail
  refine H1.out.mono ?_
  rintro e w1 ⟨v1, rfl, hown1, hb1⟩
  have hbx : Blk (w1.alloc (.cells #[.int .i64 x.code, .int .i64 x.line, .int .i64 x.col] 25)) w1.heap.size #[.int .i64 x.code, .int .i64 x.line, .int .i64 x.col] 25 := Blk.new _ _ _
  have HO1 := Sd.mk (World.ownsRow.alloc hown1 (.cells #[.int .i64 x.code, .int .i64 x.line, .int .i64 x.col] 25))
  have HB1 := Sd.mk (hb1.alloc hb1.size (.cells #[.int .i64 x.code, .int .i64 x.line, .int .i64 x.col] 25))
  have HBX := Sd.mk hbx
  clear hown1 hb1 hbx
  go_wp2_with fail
  obtain ⟨nB, hnB⟩ : ∃ nB, w1.heap.size = nB := ⟨_, rfl⟩
  generalize w1.alloc (.cells #[.int .i64 x.code, .int .i64 x.line, .int .i64 x.col] 25) = W1 at *
  rw [hnB] at HBX ⊢
  clear hnB
  refine (H2.out W1).mono ?_
  rintro e w2 ⟨lv, ev, rfl, hev, hown2, hb2⟩
  have hbx2 := HBX.out.below hb2 HBX.out.lt
  have c0 := hbx2.cell (i := 0) rfl
  have c1 := hbx2.cell (i := 1) rfl
  have c2 := hbx2.cell (i := 2) rfl
  have HBX2 := Sd.mk hbx2
  have HB2 := Sd.mk hb2
  have HO2 := Sd.mk hown2
  have HEV := Sd.mk hev
  have HW : Sd (Own w2 w.heap.size (Value.slice none 0 0) ([] : List Tk)) := ⟨World.ownsRow_nil _ _ _ _⟩
  obtain ⟨A, cap, rfl⟩ := own_slice hown2
  have HET2 := Sd.mk ((HE.out.move HB1.out).move hb2)
  clear hb2 hown2 hbx2 hev
  go_wp2_with fail
  refine (same_any (([] : List Tk)) _ _ _ _ _ HO2.out HW.out (by omega)).mono ?_
  rintro e w3 ⟨rfl, n3, rfl⟩
  go_wp2_with fail
  refine (keepIs_err x W1.heap.size _ ev (HEV.out.keep (fun F h => h.drewN n3)) (HET2.out.drewN n3)).mono ?_
  rintro e w4 ⟨rfl, hb4⟩
  have HB4 : Sd (Below w2.heap.size w2 w4) := ⟨(show Below w2.heap.size w2 (w2.drewN n3) from ⟨rfl, rfl, rfl, Nat.le_refl _, fun _ _ => rfl⟩).trans hb4⟩
  have HEV4 := Sd.mk (HEV.out.keep (fun F h => h.below HB4.out h.lt))
  have HET4 := Sd.mk (HET2.out.move HB4.out)
  have hs24 := HB4.out.size
  have hs12 := HB2.out.size
  clear hb4 c0 c1 c2
  go_wp2_with fail
  refine (keepTurn_err x W1.heap.size w4 ev HEV4.out HET4.out (by omega)).mono ?_
  rintro e w5 ⟨rfl, hb5, hk5⟩
  have HB5 := Sd.mk hb5
  have HBX5 := Sd.mk (hk5 _ _ _ (by decide) (HBX2.out.below HB4.out HBX2.out.lt))
  have HO5 := Sd.mk (own_move (ownsRow_below HO2.out HB4.out (fun g e => (HO2.out.lt g e).2)) (fun g cs _ h => hk5 g cs _ (by decide) h))
  have HW5 := Sd.mk (own_move (ownsRow_below HW.out HB4.out (fun g e => (HW.out.lt g e).2)) (fun g cs _ h => hk5 g cs _ (by decide) h))
  have HAp : Sd (∀ g, (Value.slice none 0 0).ownBlock = some g → A ≠ some ⟨g, 0, none⟩) := ⟨fun g e => by cases e⟩
  have hcap : cap ≤ 9223372036854775807 := (own_cap HO5.out).1
  have hcap2 := (own_cap HO5.out).2.1
  have HRm := Sd.mk (own_room HO5.out)
  have hb15 : Sd (Below w.heap.size w w5) := ⟨((HB1.out.trans (HB2.out.mono HB1.out.size)).trans (HB4.out.mono (by have := HB1.out.size; omega))).trans (HB5.out.mono HB1.out.size)⟩
  have HET5 := Sd.mk (HE.out.move hb15.out)
  clear hb5 hk5
  have HA0 : Sd (∀ g, A = some ⟨g, 0, none⟩ → W1.heap.size ≤ g) := ⟨fun g e => (HO5.out.lt g (by rw [e]; rfl)).1⟩
  have hszs : Sd (w.heap.size ≤ W1.heap.size ∧ W1.heap.size ≤ w5.heap.size) := ⟨HB1.out.size, by have := HB5.out.size; omega⟩
  clear hs24 hs12
  go_wp2
  go_loopw [7] (fun i wr => ∃ k : Nat, k ≤ cap ∧ i = .int .i64 k ∧ Sd (Over w5 A cap wr)) (fun i _ => cap - (intOf i).toNat)
  case atStart => exact ⟨0, by omega, rfl, ⟨HRm.out, Only.refl _ _⟩⟩
  case round =>
    obtain ⟨k, hk, rfl, HOv⟩ := hrel
    by_cases hlt : k < cap
    · rcases HOv.out.room with ⟨_, h⟩ | ⟨g, cur, rfl, hg, hsz⟩
      · omega
      · obtain ⟨u0, a0⟩ := room_cell hg hsz hlt (f := 0) (by omega)
        obtain ⟨u1, a1⟩ := room_cell hg hsz hlt (f := 1) (by omega)
        obtain ⟨u2, a2⟩ := room_cell hg hsz hlt (f := 2) (by omega)
        obtain ⟨u3, a3⟩ := room_cell hg hsz hlt (f := 3) (by omega)
        obtain ⟨u4, a4⟩ := room_cell hg hsz hlt (f := 4) (by omega)
        have af := hg.frozen
        clear hg hsz
        rw [Nat.add_zero] at a0
        go_wp2
        go_roundw
        case rel => exact ⟨k + 1, by omega, by go_num, ⟨HOv.out.put (k * 5) _ _ _ _ _⟩⟩
        case measure => simp [intOf]; omega
    · have HNl := Sd.mk hlt
      go_wp2_with fail
      have HWr := Sd.mk (ownsRow_only HW5.out HOv.out.only (fun g e h => HAp.out g e h))
      have hb5r : Sd (Below w.heap.size w5 wr) := ⟨HOv.out.only.below w.heap.size (Nat.le_trans hszs.out.1 hszs.out.2) (fun g e => Nat.le_trans hszs.out.1 (HA0.out g e))⟩
      have HBXr : Sd (Blk wr nB #[.int .i64 x.code, .int .i64 x.line, .int .i64 x.col] 25) := ⟨HBX5.out.only HOv.out.only (fun e => by
        rcases HRm.out with ⟨h, _⟩ | ⟨g, cur, h, hg, _⟩
        · rw [h] at e; cases e
        · rw [h] at e
          have : g = nB := by simpa using e
          exact (HBX5.out.ne hg (by decide)) this.symm)⟩
      refine (H2.out wr).mono ?_
      rintro e w6 ⟨mv, ev6, rfl, hev6, hown6, hb6⟩
      have HET6 := Sd.mk (((HE.out.move (hb15.out.trans hb5r.out))).move hb6)
      obtain ⟨A6, cap6, rfl⟩ := own_slice hown6
      have HEV6 := Sd.mk hev6
      have HO6 := Sd.mk hown6
      have HW6 := Sd.mk (ownsRow_below HWr.out hb6 (fun g e => (HWr.out.lt g e).2))
      have HBX6 := Sd.mk (HBXr.out.below hb6 HBXr.out.lt)
      have HB6 : Sd (Below w.heap.size w w6) := ⟨(hb15.out.trans hb5r.out).trans (hb6.mono (hb15.out.trans hb5r.out).size)⟩
      clear hev6 hown6 hb6
      go_wp2_with fail
      refine (awake_any w6 HET6.out).mono ?_
      rintro e w7 ⟨rfl, hb7⟩
      have HB7 := Sd.mk hb7
      have hbx7 := HBX6.out.below hb7 HBX6.out.lt
      have c0 := hbx7.cell (i := 0) rfl
      have c1 := hbx7.cell (i := 1) rfl
      have c2 := hbx7.cell (i := 2) rfl
      clear hb7 hbx7
      go_wp2_with fail
      refine (same_any (([] : List Tk)) _ _ _ _ w7 (ownsRow_below HO6.out HB7.out (fun g e => (HO6.out.lt g e).2)) (ownsRow_below HW6.out HB7.out (fun g e => (HW6.out.lt g e).2)) (by omega)).mono ?_
      rintro e w8 ⟨rfl, n8, rfl⟩
      go_wp2_with fail
      refine (keepIs_err x wr.heap.size _ ev6 ((HEV6.out.keep (fun F h => h.below HB7.out h.lt)).keep (fun F h => h.drewN n8)) ((HET6.out.move HB7.out).drewN n8)).mono ?_
      rintro e w9 ⟨rfl, hb9⟩
      have HB9 : Sd (Below w.heap.size w w9) := ⟨(HB6.out.trans (HB7.out.mono HB6.out.size)).trans (((show Below w7.heap.size w7 (w7.drewN n8) from ⟨rfl, rfl, rfl, Nat.le_refl _, fun _ _ => rfl⟩).trans hb9).mono (Nat.le_trans HB6.out.size HB7.out.size))⟩
      clear hb9
      go_wp2
      go_ret
      exact ⟨rfl, HB9.out⟩
theorem LawAll_any (s : ByteArray) (_hs : s.size ≤ 140737488351232) (w : World) (hE : ET w) : Calls Tryd.prog 3 #[.string s] w fun e w' => e = .returned (.bool true) ∧ Below w.heap.size w w' := by
  by_cases hbig : 16777216 < s.size
  · exact LawAll_big s w hbig
  · rcases hx : all s with ⟨T, x⟩
    by_cases hc : x.code = 0
    · exact LawAll_ok s w (by omega) hE T x hx hc
    · exact LawAll_wrong s w (by omega) hE T x hx hc
end Go.Proofs.YtghlfpeifdikkaaDoor
