/- The statement LexScans, walked: for any text and any steps it returns true. -/
import Derived.Test.YtghlfpeifdikkaaDoorLexM
namespace Go.Proofs.YtghlfpeifdikkaaDoor
open Go.RowKit Go.Proofs.YtghlfpeifdikkaaDoor.Lex

/-- two scanners of one text, apart from each other and from the whole list -/
structure ScansAt (s : ByteArray) (w : World) (T : List Tk) (x : Wr) (Q B1 B2 : Nat) (c1 : Sc) (v1 : Value) (c2 : Sc) (v2 lv : Value) (wr : World) : Prop where
  s1 : ScAt wr B1 s c1 v1
  d1 : Due s c1
  s2 : ScAt wr B2 s c2 v2
  d2 : Due s c2
  own : Own wr w.heap.size lv T
  a1 : ∀ g, v1.ownBlock = some g → lv.ownBlock ≠ some g
  a2 : ∀ g, v2.ownBlock = some g → lv.ownBlock ≠ some g
  a12 : ∀ g, v1.ownBlock = some g → v2.ownBlock ≠ some g
  ne : B1 ≠ B2
  b1 : w.heap.size ≤ B1
  b2 : w.heap.size ≤ B2
  wb : Blk wr Q #[.int .i64 x.code, .int .i64 x.line, .int .i64 x.col] 25
  bel : Below w.heap.size w wr
section
variable {s : ByteArray} {w : World} {T : List Tk} {x : Wr} {Q B1 B2 : Nat} {c1 c2 : Sc} {v1 v2 lv : Value} {wr : World}
theorem ScansAt.swap (h : ScansAt s w T x Q B1 B2 c1 v1 c2 v2 lv wr) : ScansAt s w T x Q B2 B1 c2 v2 c1 v1 lv wr := ⟨h.s2, h.d2, h.s1, h.d1, h.own, h.a2, h.a1, fun g e1 e2 => h.a12 g e2 e1, h.ne.symm, h.b2, h.b1, h.wb, h.bel⟩
theorem ScansAt.step (h : ScansAt s w T x Q B1 B2 c1 v1 c2 v2 lv wr) {w' : World} {c' : Sc} {v' : Value} (hs : ScAt w' B1 s c' v') (hd : Due s c') (hm : Moved wr.heap.size v1 v') (ho : Only wr w' (fun k => k = B1 ∨ v1.ownBlock = some k)) : ScansAt s w T x Q B1 B2 c' v' c2 v2 lv w' := by
  obtain ⟨p1, hp1⟩ := h.s1.sc
  obtain ⟨p2, hp2⟩ := h.s2.sc
  have tokne : ∀ {A : Nat} {cs : Array Value} {U : TypeId}, Blk wr A cs U → U ≠ 38 → v1.ownBlock ≠ some A := by
    intro A cs U hA hU e
    obtain ⟨cur, hc⟩ := own_blk h.s1.own e
    exact (hA.ne hc hU) rfl
  have scne : ∀ {A : Nat} {cs : Array Value} {U : TypeId}, Blk wr A cs U → U ≠ 62 → A ≠ B1 := fun hA hU => hA.ne hp1.blk hU
  have mv : ∀ {u : Value} {L : Nat} {l : List Tk}, Own wr L u l → (∀ g, v1.ownBlock = some g → u.ownBlock ≠ some g) → ∀ g, v'.ownBlock = some g → u.ownBlock ≠ some g := by
    intro u L l hu ha g e e2
    rcases hm with h1 | ⟨g2, h2, h3⟩
    · exact ha g (h1.symm.trans e) e2
    · have : g2 = g := by rw [h3] at e; simpa using e
      have := (World.ownsRow.lt hu g e2).2
      omega
  refine ⟨hs, hd, h.s2.only ho (fun e => e.elim (fun e => h.ne e.symm) (tokne hp2.blk (by decide))) (fun g e e' => e'.elim (own_apart h.s1 h.s2.own e) (fun e2 => h.a12 g e2 e)) (fun F cs hF e => e.elim (scne hF (by decide)) (tokne hF (by decide))), h.d2,
    ownsRow_only h.own ho (fun g e e' => e'.elim (own_apart h.s1 h.own e) (fun e2 => h.a1 g e2 e)), mv h.own h.a1, h.a2, mv h.s2.own h.a12, h.ne, h.b1, h.b2, h.wb.only ho (fun e => e.elim (scne h.wb (by decide)) (tokne h.wb (by decide))), ?_⟩
  refine h.bel.trans (ho.below w.heap.size h.bel.size (fun k hk => ?_))
  have := h.b1
  rcases hk with hk | hk
  · omega
  · have := (h.s1.own.lt k hk).1; omega
theorem ScansAt.next (h : ScansAt s w T x Q B1 B2 c1 v1 c2 v2 lv wr) (hs : s.size ≤ 140737488351232) (hx : all s = (T, x)) (hE : ET w) :
    Calls Tryd.prog 18 #[.pointer (some ⟨B1, 0, none⟩), lv, .int .i64 c1.nxt, .agg #[.int .i64 x.code, .int .i64 x.line, .int .i64 x.col]] wr fun e w' => e = .returned (.bool true) ∧ ∃ c' v', c'.nxt = min (c1.nxt + 1) T.length ∧ ScansAt s w T x Q B1 B2 c' v' c2 v2 lv w' := by
  have hT : (all s).1 = T := by rw [hx]
  have hX : (all s).2 = x := by rw [hx]
  rcases nx_spec h.d1 h.s1.good h.s1.le with ⟨h1, h2, h3⟩ | ⟨h1, h2, h3, h4⟩
  · rw [hT] at h1 h2
    refine (lawNext_tok s hs wr B1 c1 v1 lv w.heap.size T x h.s1 h.d1 h.own h.a1 h1 h2).mono ?_
    rintro e w' ⟨he, v', q1, q2, q3⟩
    exact ⟨he, (nx s c1).2, v', by omega, h.step q1 (due_next h.d1 h.s1.good) q2 q3⟩
  · rw [hT] at h1
    rw [hX] at h4
    have hle := h.s1.le
    have hn : c1.nxt = c1.told.length := by
      rcases Nat.lt_or_ge c1.nxt c1.told.length with hlt | hge
      · unfold nx at h2
        rw [if_pos hlt, List.getElem?_eq_getElem hlt] at h2
        cases h2
      · omega
    have hr : rd s c1.st = (none, (rd s c1.st).2) := by
      unfold nx at h2
      rw [if_neg (by omega)] at h2
      rcases hh : rd s c1.st with ⟨o, t⟩
      rw [hh] at h2
      cases o with
      | none => rfl
      | some k => cases h2
    have hB := hE.lt
    have hb := h.b1
    refine (lawNext_end s hs wr B1 c1 v1 lv w.heap.size T x h.s1 h.own (hE.move h.bel) (by omega) _ hn hr (by omega) h4).mono ?_
    rintro e w' ⟨he, v', q1, q2, q3⟩
    exact ⟨he, (nx s c1).2, v', by omega, h.step q1 (due_next h.d1 h.s1.good) q2 q3⟩
end
/-- the steps: of each its two numbers -/
def Steps (w : World) (A : Option Addr) (n : Nat) : Prop := ∀ i, i < n → ∃ (g off : Nat) (y z : Int), A = some ⟨g, off, none⟩ ∧ w.cell? ⟨g, off + i * 2, none⟩ = some (.int .i64 y) ∧ w.cell? ⟨g, off + i * 2 + 1, none⟩ = some (.int .i64 z) ∧ y ≤ 9223372036854775807
theorem cell_lt {w : World} {p : Addr} {v : Value} (h : w.cell? p = some v) : p.block < w.heap.size := by
  rcases Nat.lt_or_ge p.block w.heap.size with h1 | h1
  · exact h1
  · unfold World.cell? at h
    rw [Array.getElem?_eq_none h1] at h; simp at h
theorem Steps.below {w w' : World} {A : Option Addr} {n : Nat} (h : Steps w A n) (hb : Below w.heap.size w w') : Steps w' A n := by
  intro i hi
  obtain ⟨g, off, y, z, h1, h2, h3, h4⟩ := h i hi
  exact ⟨g, off, y, z, h1, (hb.cell (cell_lt h2)).trans h2, (hb.cell (cell_lt h3)).trans h3, h4⟩
set_option maxHeartbeats 1000000 in
theorem LawScans_big (s : ByteArray) (A : Option Addr) (n cap : Nat) (w : World) (hbig : 16777216 < s.size) : Calls Tryd.prog 5 #[.string s, .slice A n cap] w fun e w' => e = .returned (.bool true) ∧ Below w.heap.size w w' := by
  go_enter Tryd.func5, Tryd.ntmps5
  go_wp2
  go_ret
  exact ⟨rfl, Below.refl _ _⟩
set_option maxHeartbeats 1000000 in
theorem LawScans_long (s : ByteArray) (A : Option Addr) (n cap : Nat) (w : World) (hbig : s.size ≤ 16777216) (hn : 1000 < n) : Calls Tryd.prog 5 #[.string s, .slice A n cap] w fun e w' => e = .returned (.bool true) ∧ Below w.heap.size w w' := by
  go_enter Tryd.func5, Tryd.ntmps5
  go_wp2
  go_ret
  exact ⟨rfl, Below.refl _ _⟩
set_option maxHeartbeats 8000000 in
set_option maxRecDepth 100000 in
theorem LawScans_main (s : ByteArray) (A : Option Addr) (n cap : Nat) (w : World) (hbig : s.size ≤ 16777216) (hn : n ≤ 1000) (hE : ET w) (hst : Steps w A n) (T : List Tk) (x : Wr) (hx : all s = (T, x)) : Calls Tryd.prog 5 #[.string s, .slice A n cap] w fun e w' => e = .returned (.bool true) ∧ Below w.heap.size w w' := by
  have HE := Sd.mk hE
  have HST := Sd.mk hst
  have hT : T.length ≤ 65537 := by have := all_len s; rw [hx] at this; simpa using this
  have H1 := Sd.mk (refAll_any s w (by omega))
  unfold AllOut wrV at H1
  rw [hx] at H1
  have HX := Sd.mk hx
  clear hE hx hst
  go_enter Tryd.func5, Tryd.ntmps5
  go_wp2_with fail
  refine H1.out.mono ?_
  rintro e w1 ⟨lv, rfl, hown1, hb1⟩
  obtain ⟨LA, lcap, rfl⟩ := own_slice hown1
  have HBX : Sd (Blk (w1.alloc (.cells #[.int .i64 x.code, .int .i64 x.line, .int .i64 x.col] 25)) w1.heap.size #[.int .i64 x.code, .int .i64 x.line, .int .i64 x.col] 25) := ⟨Blk.new _ _ _⟩
  have HO1 := Sd.mk (World.ownsRow.alloc hown1 (.cells #[.int .i64 x.code, .int .i64 x.line, .int .i64 x.col] 25))
  have HB1 := Sd.mk (hb1.alloc hb1.size (.cells #[.int .i64 x.code, .int .i64 x.line, .int .i64 x.col] 25))
  clear hown1 hb1 H1
  go_wp2_with fail
  obtain ⟨nB, hnB⟩ : ∃ nB, w1.heap.size = nB := ⟨_, rfl⟩
  generalize w1.alloc (.cells #[.int .i64 x.code, .int .i64 x.line, .int .i64 x.col] 25) = W1 at *
  rw [hnB] at HBX ⊢
  clear hnB
  refine (new_any W1 s (by omega)).mono ?_
  rintro e w2 ⟨rfl, hs2, hb2⟩
  have HS2 := Sd.mk hs2
  have HB2 := Sd.mk hb2
  clear hs2 hb2
  go_wp2_with fail
  refine (new_any w2 s (by omega)).mono ?_
  rintro e w3 ⟨rfl, hs3, hb3⟩
  have HSA : Sd (ScansAt s w T x nB W1.heap.size w2.heap.size (sc0 s) (.slice none 0 0) (sc0 s) (.slice none 0 0) (.slice LA T.length lcap) w3) := by
    obtain ⟨pp, hpp⟩ := HS2.out.sc
    have := hpp.blk.lt
    have := HB1.out.size
    have := HB2.out.size
    exact ⟨HS2.out.move hb3, due0 s, hs3, due0 s, ownsRow_below (ownsRow_below HO1.out HB2.out (fun g e => (HO1.out.lt g e).2)) hb3 (fun g e => by have := (HO1.out.lt g e).2; omega), (fun g e => by cases e), (fun g e => by cases e), (fun g e => by cases e), by omega, by omega, by omega,
      (HBX.out.below HB2.out HBX.out.lt).below hb3 (by have := HBX.out.lt; omega), (HB1.out.trans (HB2.out.mono HB1.out.size)).trans (hb3.mono (by omega))⟩
  clear hs3 hb3 HS2 HB2 HB1 HO1 HBX
  generalize W1.heap.size = B1 at *
  generalize w2.heap.size = B2 at *
  go_wp2
  go_loopw [9, 10, 11] (fun a g i wr => ∃ m : Nat, m ≤ n ∧ i = .int .i64 m ∧ Sd (∃ c1 v1 c2 v2, a = .int .i64 c1.nxt ∧ g = .int .i64 c2.nxt ∧ ScansAt s w T x nB B1 B2 c1 v1 c2 v2 (.slice LA T.length lcap) wr)) (fun _ _ i _ => n - (intOf i).toNat)
  case atStart => exact ⟨0, by omega, rfl, ⟨_, _, _, _, rfl, rfl, HSA.out⟩⟩
  case round =>
    obtain ⟨m, hm, rfl, hq⟩ := hrel
    obtain ⟨c1, v1, c2, v2, rfl, rfl, hA⟩ := hq.out
    have HA := Sd.mk hA
    have hcn : c1.nxt ≤ 65537 := by have := due_len hA.d1; have := hA.s1.le; omega
    have hcn2 : c2.nxt ≤ 65537 := by have := due_len hA.d2; have := hA.s2.le; omega
    have hq0 := hA.wb.cell (i := 0) rfl
    have hq1 := hA.wb.cell (i := 1) rfl
    have hq2 := hA.wb.cell (i := 2) rfl
    by_cases hlt : m < n
    · obtain ⟨g, off, y, z, rfl, hyw, hzw, hwy⟩ := HST.out m hlt
      have hy := (hA.bel.cell (cell_lt hyw)).trans hyw
      have hz := (hA.bel.cell (cell_lt hzw)).trans hzw
      have HYW := Sd.mk hyw
      clear hA hq hyw hzw
      by_cases hy0 : y ≤ 0
      · have HBk := Sd.mk (back_any wr B1 s c1 v1 z HA.out.s1 (by have := due_len HA.out.d1; omega))
        go_wp2_with fail
        refine HBk.out.mono ?_
        intro e w4 hbk
        unfold BackOut at hbk
        by_cases hz0 : z < 0
        · rw [if_pos (.inl hz0)] at hbk
          obtain ⟨rfl, rfl⟩ := hbk
          go_wp2
          go_round
          case rel => exact ⟨m + 1, by omega, by go_num, ⟨c1, v1, c2, v2, rfl, rfl, HA.out⟩⟩
          case measure => simp [intOf]; omega
        · by_cases hz1 : (c1.nxt : Int) < z
          · rw [if_pos (.inr hz1)] at hbk
            obtain ⟨rfl, rfl⟩ := hbk
            go_wp2
            go_round
            case rel => exact ⟨m + 1, by omega, by go_num, ⟨c1, v1, c2, v2, rfl, rfl, HA.out⟩⟩
            case measure => simp [intOf]; omega
          · rw [if_neg (by omega)] at hbk
            obtain ⟨rfl, hs4, ho4⟩ := hbk
            have HA4 := Sd.mk (HA.out.step hs4 HA.out.d1 (.inl rfl) (ho4.mono (fun _ _ h => .inl h)))
            clear hs4 ho4 hy hz hq0 hq1 hq2
            go_wp2
            go_round
            case rel => exact ⟨m + 1, by omega, by go_num, ⟨_, v1, c2, v2, by simp only; congr 1; omega, rfl, HA4.out⟩⟩
            case measure => simp [intOf]; omega
      · have hy1 : 0 < y := by omega
        go_wp2
        go_loopw [9, 14] (fun a k wr' => ∃ j : Nat, j ≤ 20 ∧ k = .int .i64 j ∧ Sd (∃ c1 v1, a = .int .i64 c1.nxt ∧ ScansAt s w T x nB B1 B2 c1 v1 c2 v2 (.slice LA T.length lcap) wr')) (fun _ k _ => 20 - (intOf k).toNat)
        case atStart => exact ⟨0, by omega, rfl, ⟨_, _, rfl, HA.out⟩⟩
        case round =>
          obtain ⟨j, hj, rfl, hq⟩ := hrel
          clear hy hz hq0 hq1 hq2 hcn
          obtain ⟨d1, u1, rfl, hA⟩ := hq.out
          have HA2 := Sd.mk hA
          have hcn : d1.nxt ≤ 65537 := by have := due_len hA.d1; have := hA.s1.le; omega
          have hq0 := hA.wb.cell (i := 0) rfl
          have hq1 := hA.wb.cell (i := 1) rfl
          have hq2 := hA.wb.cell (i := 2) rfl
          have hy := (hA.bel.cell (cell_lt HYW.out)).trans HYW.out
          have HNs := Sd.mk (hA.next (by omega) HX.out HE.out)
          have HNo := Sd.mk (hA.swap.next (by omega) HX.out HE.out)
          clear hA hq
          go_wp2_with fail
          refine (pick_any y _ hy1 hwy).mono ?_
          rintro e w5 ⟨rfl, rfl⟩
          by_cases hjy : (j : Int) ≤ y % 20
          · have hj19 : j < 20 := by omega
            go_wp2_with fail
            refine HNs.out.mono ?_
            rintro e w6 ⟨rfl, c', v', hn', hA6⟩
            have HA6 := Sd.mk hA6
            have HN' := Sd.mk hn'
            clear hA6 hn' hq0 hq1 hq2 hy HNs HNo
            go_wp2
            go_round
            case rel => exact ⟨j + 1, by omega, by go_num, ⟨c', v', by rw [HN'.out]; go_num, HA6.out⟩⟩
            case measure => simp [intOf]; omega
          · go_wp2_with fail
            refine HNo.out.mono ?_
            rintro e w6 ⟨rfl, c', v', hn', hA6⟩
            have HA6 := Sd.mk hA6
            have HN' := Sd.mk hn'
            clear hA6 hn' hq0 hq1 hq2 hy HNs HNo
            go_wp2
            go_round
            case rel => exact ⟨m + 1, by omega, by go_num, ⟨d1, u1, c', v', rfl, by rw [HN'.out]; go_num, HA6.out.swap⟩⟩
            case measure => simp [intOf]; omega
    · have hge : n ≤ m := by omega
      have hbel := hA.bel
      clear hA hq hq0 hq1 hq2
      go_wp2_with fail
      refine (awake_any _ (HE.out.move hbel)).mono ?_
      rintro e w4 ⟨rfl, hb4⟩
      have HB4 := Sd.mk (hbel.trans (hb4.mono hbel.size))
      clear hb4 hbel
      go_wp2
      go_ret
      exact ⟨rfl, HB4.out⟩
theorem LawScans_any (s : ByteArray) (A : Option Addr) (n cap : Nat) (w : World) (hE : ET w) (hst : Steps w A n) : Calls Tryd.prog 5 #[.string s, .slice A n cap] w fun e w' => e = .returned (.bool true) ∧ Below w.heap.size w w' := by
  by_cases hbig : 16777216 < s.size
  · exact LawScans_big s A n cap w hbig
  · by_cases hn : 1000 < n
    · exact LawScans_long s A n cap w (by omega) hn
    · exact LawScans_main s A n cap w (by omega) (by omega) hE hst _ _ rfl
end Go.Proofs.YtghlfpeifdikkaaDoor
