/- A scanner to its end, against All. -/
import Derived.Test.YtghlfpeifdikkaaDoorLexM
import Derived.Test.YtghlfpeifdikkaaDoorFmt3
namespace Go.Proofs.YtghlfpeifdikkaaDoor
open Go.RowKit Go.Proofs.YtghlfpeifdikkaaDoor.Lex

theorem all_len2 (s : ByteArray) : (all s).1.length ≤ s.size + 1 := by
  by_cases h : 65536 < s.size
  · unfold all; rw [if_pos h]; simp
  · rw [← out_all]
    have hs := start_ok s (by omega)
    have := out_len s (left s (Lex.start s)) _ (Nat.le_refl _) hs
    have hl : left s (Lex.start s) ≤ s.size + 1 := by
      unfold left; split <;> omega
    omega
/-- between two rounds -/
def EndsAt (s : ByteArray) (B : Nat) (w1 : World) (n : Nat) (wr : World) : Prop := ∃ c v, ScAt wr B s c v ∧ Due s c ∧ c.nxt = n ∧ Below B w1 wr
theorem EndsAt.len {s : ByteArray} {B : Nat} {w1 : World} {n : Nat} {wr : World} (h : EndsAt s B w1 n wr) : n ≤ (all s).1.length := by
  obtain ⟨c, v, h1, h2, h3, _⟩ := h
  rcases nx_spec h2 h1.good h1.le with ⟨h, _⟩ | ⟨h, _⟩ <;> omega
theorem back_end (w : World) (B : Nat) (s : ByteArray) (c : Sc) (v : Value) (n : Nat) (hS : ScAt w B s c v) (hn : c.nxt = n) (hl : c.told.length ≤ 1000000) :
    Calls Tryd.prog 16 #[.pointer (some ⟨B, 0, none⟩), .int .i64 n] w fun e w' => e = .returned (.int .i64 0) ∧ ∃ c', ScAt w' B s c' v ∧ c'.told.length ≤ 1000000 ∧ c'.nxt = 0 ∧ Only w w' (· = B) := by
  refine (back_any w B s c v n hS hl).mono fun e w' h => ?_
  unfold BackOut at h
  rw [if_neg (by omega)] at h
  exact ⟨h.1, _, h.2.1, hl, by simp only; omega, h.2.2⟩
theorem back_over (w : World) (B : Nat) (s : ByteArray) (c : Sc) (v : Value) (hS : ScAt w B s c v) (hn : c.nxt = 0) (hl : c.told.length ≤ 1000000) :
    Calls Tryd.prog 16 #[.pointer (some ⟨B, 0, none⟩), .int .i64 1] w fun e w' => e = .returned (.int .i64 1) ∧ w = w' := by
  refine (back_any w B s c v 1 hS hl).mono fun e w' h => ?_
  unfold BackOut at h
  rw [if_pos (by omega)] at h
  exact h
theorem LawEnds_big (s : ByteArray) (w : World) (hbig : 16777216 < s.size) (hs : s.size ≤ 140737488351232) : Calls Tryd.prog 8 #[.string s] w fun e w' => e = .returned (.bool true) ∧ Below w.heap.size w w' := by
  go_enter Tryd.func8, Tryd.ntmps8
  go_wp2
  go_ret
  exact ⟨rfl, Below.refl _ _⟩
set_option maxHeartbeats 8000000 in
set_option maxRecDepth 100000 in
theorem LawEnds_ok (s : ByteArray) (w : World) (hbig : s.size ≤ 16777216) (hE : ET w) (hc : (all s).2.code = 0) : Calls Tryd.prog 8 #[.string s] w fun e w' => e = .returned (.bool true) ∧ Below w.heap.size w w' := by
  have HE := Sd.mk hE
  have H2 := Sd.mk (lexAll_any s w (by omega))
  have hlen := all_len s
  have hlen2 := all_len2 s
  have HC := Sd.mk hc
  obtain ⟨T, hT⟩ : ∃ T, (all s).1 = T := ⟨_, rfl⟩
  rw [hT] at hlen hlen2
  have HTT := Sd.mk hT
  clear hE hc hT
  go_enter Tryd.func8, Tryd.ntmps8
  go_wp2_with fail
  refine H2.out.mono ?_
  rintro e w1 ⟨lv, ev, rfl, hev, hown, hb1⟩
  rw [if_pos HC.out, HTT.out] at hown
  obtain ⟨A, cap, rfl⟩ := own_slice hown
  rcases hev with ⟨_, rfl⟩ | ⟨h, _⟩
  rotate_left
  · exact absurd HC.out h
  · have HB1 := Sd.mk hb1
    have HO := Sd.mk hown
    clear hown hb1
    go_wp2_with fail
    refine (new_any w1 s (by omega)).mono ?_
    rintro e w2 ⟨rfl, hs2, hb2⟩
    have HS2 := Sd.mk hs2
    have HB2 := Sd.mk hb2
    clear hs2 hb2
    go_wp2
    go_loopw [6] (fun nv wr => ∃ n : Nat, n ≤ s.size + 1 ∧ nv = .int .i64 n ∧ Sd (EndsAt s w1.heap.size w1 n wr)) (fun nv _ => s.size + 2 - (intOf nv).toNat)
    case atStart => exact ⟨0, by omega, rfl, ⟨sc0 s, _, HS2.out, due0 s, rfl, HB2.out⟩⟩
    case round =>
      obtain ⟨n, hn, rfl, HI⟩ := hrel
      obtain ⟨c, v, hS, hD, hcn, hbl⟩ := HI.out
      have HS := Sd.mk hS
      have HD := Sd.mk hD
      have HCN := Sd.mk hcn
      have HBL := Sd.mk hbl
      have HNx := Sd.mk (next_any wr w1.heap.size s c v (by omega) hS (by have := due_len hD; omega))
      have HSP := Sd.mk (nx_spec hD hS.good hS.le)
      clear hS hD hcn hbl HI
      go_wp2_with fail
      refine HNx.out.mono ?_
      rintro e w3 ⟨v', k, b, ev, rfl, h1, h2, h3, hs3, hm, ho⟩
      have HS3 := Sd.mk hs3
      have HB3 := Sd.mk (HBL.out.trans (ho.below w1.heap.size HBL.out.size (fun k hk => by
        rcases hk with hk | hk
        · omega
        · have := (HS.out.own.lt k hk).1; omega)))
      have HD3 := Sd.mk (due_next HD.out HS.out.good)
      clear hs3 hm ho
      cases b
      · obtain ⟨rfl, hev⟩ := h3 rfl
        have hend : c.nxt = T.length ∧ (nx s c).2.nxt = c.nxt ∧ ev = .nilIface := by
          rcases HSP.out with ⟨q1, q2, _⟩ | ⟨q1, q2, q3, q4⟩
          · rw [h1] at q2; rw [List.getElem?_eq_getElem q1] at q2; cases q2
          · refine ⟨by rw [q1, HTT.out], q3, ?_⟩
            rcases hev with ⟨_, h⟩ | ⟨h, _⟩
            · exact h
            · rw [q4] at h; exact absurd HC.out h
        obtain ⟨hn1, hn2, rfl⟩ := hend
        have hnT : n = T.length := by have := HCN.out; omega
        have HN2 := Sd.mk hn2
        have HLn := Sd.mk hn1
        clear h1 h2 h3 hev HSP HNx hn1 hn2
        subst hnT
        unfold tkV noTk
        have HW := Sd.mk (HB1.out.trans (HB3.out.mono HB1.out.size))
        have hsz3 := HB3.out.size
        go_wp2
        go_quiet (fail)
        go_wp2_with fail
        refine (awake_any _ (HE.out.move (Below.drewN (HW.out.alloc HW.out.size _)))).mono ?_
        rintro e w4 ⟨rfl, hb4⟩
        have HS4 := Sd.mk ((HS3.out.move (Below.drewN ((Below.refl _ _).alloc (Nat.le_refl _) _))).move hb4)
        have HW4 := Sd.mk ((Below.drewN (HW.out.alloc HW.out.size _)).trans (hb4.mono (by have := HW.out.size; simp; omega)))
        clear hb4
        have hl4 := due_len HD3.out
        have HK1 := Sd.mk (back_end w4 w1.heap.size s (nx s c).2 v' T.length HS4.out (by have h1 := HN2.out; have h2 := HLn.out; omega) (by omega))
        clear hl4
        go_wp2_with fail
        refine HK1.out.mono ?_
        rintro e w5 ⟨rfl, c5, hs5, hl5, hn5, ho5⟩
        have HK2 := Sd.mk (back_over w5 w1.heap.size s c5 v' hs5 hn5 hl5)
        have HO5 := Sd.mk (HW4.out.trans (ho5.below w.heap.size HW4.out.size (fun k h => by have := HB1.out.size; omega)))
        clear hs5 hl5 hn5 ho5
        go_wp2_with fail
        refine HK2.out.mono ?_
        rintro e w6 ⟨rfl, rfl⟩
        go_wp2
        go_ret
        exact ⟨rfl, HO5.out⟩
      · obtain rfl := h2 rfl
        have hgo : ∃ h : n < T.length, T[n] = k ∧ (nx s c).2.nxt = n + 1 := by
          rcases HSP.out with ⟨q1, q2, q3⟩ | ⟨q1, q2, _⟩
          · rw [h1] at q2
            obtain rfl := HCN.out
            obtain rfl := HTT.out
            exact ⟨q1, by rw [List.getElem?_eq_getElem q1] at q2; simpa using q2.symm, q3⟩
          · rw [h1] at q2; cases q2
        obtain ⟨hlt, rfl, hn1⟩ := hgo
        have HN1 := Sd.mk hn1
        have hown := ownsRow_below HO.out HB3.out (fun g e => (HO.out.lt g e).2)
        rcases own_cells hown with ⟨_, h⟩ | ⟨g, cap', hv, _, hg2, _, _, hcell⟩
        · rw [h] at hlt; simp at hlt
        · obtain rfl : A = some ⟨g, 0, none⟩ := by simp at hv; exact hv.1
          obtain ⟨a0, a1, a2, a3, a4⟩ := hcell n hlt
          clear h1 h2 h3 hn1 hown hcell hv HSP HNx
          generalize T[n] = k at *
          unfold tkV
          go_wp2
          go_quiet (fail)
          go_wp2
          go_roundw
          case rel => exact ⟨n + 1, by omega, by go_num, ⟨_, _, HS3.out.move (Below.drewN ((Below.refl _ _).alloc (Nat.le_refl _) _)), HD3.out, HN1.out, Below.drewN (HB3.out.alloc HB3.out.size _)⟩⟩
          case measure => simp [intOf]; omega

/-! ### what is wrong has small numbers -/
theorem bad_bd (s : ByteArray) (k i j : Nat) : bad s k i j ≤ 93 := by unfold bad; (repeat' split) <;> omega
theorem line_bd (s : ByteArray) (no : Nat) : ∀ m i, s.size - i ≤ m → (lineFrom s 0 s.size no i).2.code ≤ 93 ∧ (lineFrom s 0 s.size no i).2.line ≤ no ∧ (lineFrom s 0 s.size no i).2.col ≤ s.size := by
  intro m
  induction m with
  | zero => intro i h; rw [line_over (by omega)]; simp [ok]
  | succ m ih =>
    intro i h
    by_cases hi : i < s.size
    · by_cases h35 : at_ s i = 35
      · rw [line_remark hi h35]; simp [ok]
      · by_cases hb : blk (at_ s i) = true
        · rw [line_skip hi h35 hb]; exact ih _ (by omega)
        · have hb' : blk (at_ s i) = false := by simpa using hb
          by_cases hk : kd (at_ s i) = 0
          · rw [line_byte hi h35 hb' hk]; simp only; omega
          · rw [line_tok hi h35 hb' rfl hk]
            split
            · have := bad_bd s (kd (at_ s i)) i (tokEnd s (kd (at_ s i)) i); simp only; omega
            · exact ih _ (by have := (tokEnd_gt hi rfl).1; omega)
    · rw [line_over hi]; simp [ok]
theorem lineR_bd (s : ByteArray) (no : Nat) : (lineR s no).2.code ≤ 93 ∧ (lineR s no).2.line ≤ no ∧ (lineR s no).2.col ≤ s.size + 1 := by
  unfold lineR
  split
  · simp only; omega
  · have := line_bd s no _ 0 (Nat.le_refl _); omega
theorem lines_bd (s : ByteArray) : ∀ m no i, s.size - i ≤ m → (linesFrom s no i).2.code ≤ 93 ∧ (linesFrom s no i).2.line ≤ no + (s.size - i) ∧ (linesFrom s no i).2.col ≤ s.size + 1 := by
  intro m
  induction m with
  | zero => intro no i h; rw [lines_end _ _ _ (by omega)]; simp [ok]
  | succ m ih =>
    intro no i h
    by_cases hi : i < s.size
    · rw [lines_step s no i hi]
      have hl := lineR_bd (s.extract i (eol s i)) no
      have hz : (s.extract i (eol s i)).size ≤ s.size := by rw [ByteArray.size_extract]; omega
      split
      · omega
      · have := ih (no + 1) (eol s i + 1) (by have := eol_le s i; omega)
        have := eol_le s i
        simp only; omega
    · rw [lines_end _ _ _ (by omega)]; simp [ok]
theorem all_bd (s : ByteArray) : (all s).2.code < 100000 ∧ (all s).2.line < 100000 ∧ (all s).2.col < 100000 := by
  unfold all
  split
  · simp
  · have := lines_bd s _ 1 0 (Nat.le_refl _); omega

theorem beyond {w M W : World} (h : Below w.heap.size w M) (k : Below M.heap.size M W) : Below w.heap.size w W := h.trans (k.mono h.size)
theorem nilErr (a : Addr) (w : World) : (nilAhead 247 56 (.pointer (some a)) "Error").run Tryd.prog w = .ok (some false) w := by kernel_rfl
theorem metErr (a : Addr) (w : World) : (Go.method 247 56 (.pointer (some a)) "Error").run Tryd.prog w = .ok (76, .pointer (some a)) w := by kernel_rfl
/-- a token of noughts, at a block -/
def NoTk (W : World) (R : Nat) : Prop := W.cell? ⟨R, 0, none⟩ = some (.int .i64 0) ∧ W.cell? ⟨R, 1, none⟩ = some (.string ⟨#[]⟩) ∧ W.cell? ⟨R, 2, none⟩ = some (.int .u32 0) ∧ W.cell? ⟨R, 3, none⟩ = some (.int .i64 0) ∧ W.cell? ⟨R, 4, none⟩ = some (.int .i64 0)
/-- a fault's text, in every world beyond one -/
theorem error_held (z : Nat → Int) (x : Wr) (X : ByteArray) (hX : ∀ (w : World) (F : Nat), 1 < w.heap.size → TabAny w z → Blk w F #[.int .i64 x.code, .int .i64 x.line, .int .i64 x.col] 59 →
      Calls Tryd.prog 76 #[.pointer (some ⟨F, 0, none⟩)] w fun e w' => e = .returned (.string X) ∧ Below w.heap.size w w')
    (M : World) (F : Nat) (hg : 1 < M.heap.size) (hz : TabAny M z) (hF : Blk M F #[.int .i64 x.code, .int .i64 x.line, .int .i64 x.col] 59) {R : Nat} (hR : Blk M R zero5 38) (W : World) (hW : Below M.heap.size M W) :
    Calls Tryd.prog 76 #[.pointer (some ⟨F, 0, none⟩)] W fun e w' => e = .returned (.string X) ∧ Below M.heap.size M w' ∧ w'.cell? ⟨R, 0, none⟩ = some (.int .i64 0) ∧ w'.cell? ⟨R, 1, none⟩ = some (.string ⟨#[]⟩) ∧ w'.cell? ⟨R, 2, none⟩ = some (.int .u32 0) ∧ w'.cell? ⟨R, 3, none⟩ = some (.int .i64 0) ∧ w'.cell? ⟨R, 4, none⟩ = some (.int .i64 0) := by
  refine (hX W F (Nat.lt_of_lt_of_le hg hW.size) (hz.below hW hg) (hF.below hW hF.lt)).mono fun e w' ⟨he, hb⟩ => ?_
  have hb2 := hW.trans (hb.mono hW.size)
  have hR2 := hR.below hb2 hR.lt
  exact ⟨he, hb2, hR2.cell (i := 0) rfl, hR2.cell (i := 1) rfl, hR2.cell (i := 2) rfl, hR2.cell (i := 3) rfl, hR2.cell (i := 4) rfl⟩
set_option maxHeartbeats 8000000 in
set_option maxRecDepth 100000 in
theorem LawEnds_wrong (s : ByteArray) (w : World) (z : Nat → Int) (hbig : s.size ≤ 16777216) (hE : ET w) (hz : TabAny w z) (hg : 1 < w.heap.size) (hc : (all s).2.code ≠ 0) : Calls Tryd.prog 8 #[.string s] w fun e w' => e = .returned (.bool true) ∧ Below w.heap.size w w' := by
  have HE := Sd.mk hE
  have H2 := Sd.mk (lexAll_any s w (by omega))
  have hlen := all_len s
  have hlen2 := all_len2 s
  have HC := Sd.mk hc
  obtain ⟨X, hX⟩ := error_any z (all s).2 (all_bd s).1 (all_bd s).2.1 (all_bd s).2.2
  have HX := Sd.mk hX
  obtain ⟨T, hT⟩ : ∃ T, (all s).1 = T := ⟨_, rfl⟩
  obtain ⟨x, hx⟩ : ∃ x, (all s).2 = x := ⟨_, rfl⟩
  rw [hT] at hlen hlen2
  rw [hx] at HX HC
  have HTT := Sd.mk hT
  have HXX := Sd.mk hx
  have HZ := Sd.mk hz
  have HG := Sd.mk hg
  have HNE := Sd.mk nilErr
  have HME := Sd.mk metErr
  clear hE hc hT hX hx hz hg
  go_enter Tryd.func8, Tryd.ntmps8
  go_wp2_with fail
  refine H2.out.mono ?_
  rintro e w1 ⟨lv, ev, rfl, hev, hown, hb1⟩
  rw [HXX.out] at hev hown
  rw [if_neg HC.out] at hown
  obtain ⟨A, cap, rfl⟩ := own_slice hown
  rcases hev with ⟨h, _⟩ | ⟨_, F0, rfl, hF0, hB0⟩
  · exact absurd h HC.out
  · have HB1 := Sd.mk hb1
    have HF0 := Sd.mk hB0
    clear hown hb1 hF0 hB0
    go_wp2_with fail
    refine (new_any w1 s (by omega)).mono ?_
    rintro e w2 ⟨rfl, hs2, hb2⟩
    have HS2 := Sd.mk hs2
    have HB2 := Sd.mk hb2
    clear hs2 hb2
    go_wp2
    go_loopw [6] (fun nv wr => ∃ n : Nat, n ≤ s.size + 1 ∧ nv = .int .i64 n ∧ Sd (EndsAt s w1.heap.size w1 n wr)) (fun nv _ => s.size + 2 - (intOf nv).toNat)
    case atStart => exact ⟨0, by omega, rfl, ⟨sc0 s, _, HS2.out, due0 s, rfl, HB2.out⟩⟩
    case round =>
      obtain ⟨n, hn, rfl, HI⟩ := hrel
      obtain ⟨c, v, hS, hD, hcn, hbl⟩ := HI.out
      have HS := Sd.mk hS
      have HD := Sd.mk hD
      have HCN := Sd.mk hcn
      have HBL := Sd.mk hbl
      have HNx := Sd.mk (next_any wr w1.heap.size s c v (by omega) hS (by have := due_len hD; omega))
      have HSP := Sd.mk (nx_spec hD hS.good hS.le)
      clear hS hD hcn hbl HI
      go_wp2_with fail
      refine HNx.out.mono ?_
      rintro e w3 ⟨v', k, b, ev, rfl, h1, h2, h3, hs3, hm, ho⟩
      have HS3 := Sd.mk hs3
      have HB3 := Sd.mk (HBL.out.trans (ho.below w1.heap.size HBL.out.size (fun k hk => by
        rcases hk with hk | hk
        · omega
        · have := (HS.out.own.lt k hk).1; omega)))
      have HD3 := Sd.mk (due_next HD.out HS.out.good)
      clear hs3 hm ho
      cases b
      · obtain ⟨rfl, hev⟩ := h3 rfl
        have hend : c.nxt = T.length ∧ (nx s c).2.nxt = c.nxt ∧ ∃ F, ev = .iface 56 (.pointer (some ⟨F, 0, none⟩)) ∧ Blk w3 F #[.int .i64 x.code, .int .i64 x.line, .int .i64 x.col] 59 := by
          rcases HSP.out with ⟨q1, q2, _⟩ | ⟨q1, q2, q3, q4⟩
          · rw [h1] at q2; rw [List.getElem?_eq_getElem q1] at q2; cases q2
          · refine ⟨by rw [q1, HTT.out], q3, ?_⟩
            rw [q4, HXX.out] at hev
            rcases hev with ⟨h, _⟩ | ⟨_, F, h1, _, h3⟩
            · exact absurd h HC.out
            · exact ⟨F, h1, h3⟩
        obtain ⟨hn1, hn2, F, rfl, hF⟩ := hend
        have hnT : n = T.length := by have := HCN.out; omega
        have HN2 := Sd.mk hn2
        have HLn := Sd.mk hn1
        have HW := Sd.mk (HB1.out.trans (HB3.out.mono HB1.out.size))
        have hsz3 := HB3.out.size
        obtain ⟨M, hM⟩ : ∃ M, M = w3.alloc (.cells zero5 38) := ⟨_, rfl⟩
        have hMg : 1 < M.heap.size := by rw [hM, World.size_alloc]; have h1 := HG.out; have h2 := HW.out.size; omega
        have hMz : TabAny M z := by rw [hM]; exact HZ.out.below (HW.out.alloc HW.out.size _) HG.out
        have hMR : Blk M w3.heap.size zero5 38 := by rw [hM]; exact Blk.new _ _ _
        have HE1 := Sd.mk (error_held z x X HX.out M F hMg hMz (by rw [hM]; exact hF.alloc _) hMR)
        have HE2 := Sd.mk (error_held z x X HX.out M F0 hMg hMz (by rw [hM]; exact (HF0.out.below HB3.out HF0.out.lt).alloc _) hMR)
        have HM0 : Below M.heap.size M M.drew := (Below.refl _ _).drew
        have HMM := Sd.mk hM
        have HWM : Sd (Below w.heap.size w M) := ⟨by rw [hM]; exact HW.out.alloc HW.out.size _⟩
        have HSM : Sd (ScAt M w1.heap.size s (nx s c).2 v') := ⟨by rw [hM]; exact HS3.out.alloc _⟩
        have n1 := HNE.out
        have n2 := HME.out
        have hMR0 := hMR
        unfold zero5 at hMR0
        clear h1 h2 h3 hev HSP HNx hn1 hn2 hF hMg hMz hMR hM
        subst hnT
        unfold tkV noTk
        go_wp2
        rw [show w3.alloc (.cells #[.int .i64 0, .string ⟨#[]⟩, .int .u32 0, .int .i64 0, .int .i64 0] 38) = M from HMM.out.symm]
        have r0 := (hMR0).cell (i := 0) rfl
        have r1 := (hMR0).cell (i := 1) rfl
        have r2 := (hMR0).cell (i := 2) rfl
        have r3 := (hMR0).cell (i := 3) rfl
        have r4 := (hMR0).cell (i := 4) rfl
        clear hMR0
        go_region_held3 (fun W => Below M.heap.size M W ∧ W.cell? ⟨w3.heap.size, 0, none⟩ = some (.int .i64 0) ∧ W.cell? ⟨w3.heap.size, 1, none⟩ = some (.string ⟨#[]⟩) ∧ W.cell? ⟨w3.heap.size, 2, none⟩ = some (.int .u32 0) ∧ W.cell? ⟨w3.heap.size, 3, none⟩ = some (.int .i64 0) ∧ W.cell? ⟨w3.heap.size, 4, none⟩ = some (.int .i64 0))
          (first | (exact ⟨‹_›, ‹_›, ‹_›, ‹_›, ‹_›, ‹_›⟩) | (exact ⟨HM0, r0, r1, r2, r3, r4⟩) | go_keep)
          (first
            | (go_at_call_of 76 (Value.pointer (some ⟨F, 0, none⟩)); refine (HE1.out _ ?_).mono ?_; (go_split_ands; assumption); rintro e w4 ⟨rfl, hb, g0, g1, g2, g3, g4⟩)
            | (go_at_call_of 76 (Value.pointer (some ⟨F0, 0, none⟩)); refine (HE2.out _ ?_).mono ?_; (go_split_ands; assumption); rintro e w5 ⟨rfl, hb, g0, g1, g2, g3, g4⟩))
        clear r0 r1 r2 r3 r4
        go_wp2_with fail
        refine (awake_any _ (HE.out.move (beyond HWM.out ‹Below M.heap.size M _›))).mono ?_
        rintro e w6 ⟨rfl, hb6⟩
        have HW6 := Sd.mk ((beyond HWM.out ‹Below M.heap.size M _›).trans (hb6.mono (beyond HWM.out ‹Below M.heap.size M _›).size))
        have HS6 := Sd.mk ((HSM.out.move ‹Below M.heap.size M _›).move hb6)
        clear hb6
        have hl4 := due_len HD3.out
        have HK1 := Sd.mk (back_end w6 w1.heap.size s (nx s c).2 v' T.length HS6.out (by have h1 := HN2.out; have h2 := HLn.out; omega) (by omega))
        clear hl4
        go_wp2_with fail
        refine HK1.out.mono ?_
        rintro e w7 ⟨rfl, c5, hs5, hl5, hn5, ho5⟩
        have HK2 := Sd.mk (back_over w7 w1.heap.size s c5 v' hs5 hn5 hl5)
        have HO5 := Sd.mk (HW6.out.trans (ho5.below w.heap.size HW6.out.size (fun k h => by have := HB1.out.size; omega)))
        clear hs5 hl5 hn5 ho5
        go_wp2_with fail
        refine HK2.out.mono ?_
        rintro e w8 ⟨rfl, rfl⟩
        go_wp2
        go_ret
        exact ⟨rfl, HO5.out⟩
      · obtain rfl := h2 rfl
        have hgo : n < T.length ∧ (nx s c).2.nxt = n + 1 := by
          rcases HSP.out with ⟨q1, q2, q3⟩ | ⟨q1, q2, _⟩
          · obtain rfl := HCN.out
            obtain rfl := HTT.out
            exact ⟨q1, q3⟩
          · rw [h1] at q2; cases q2
        obtain ⟨hlt, hn1⟩ := hgo
        have HN1 := Sd.mk hn1
        clear h1 h2 h3 hn1 HSP HNx
        unfold tkV
        go_wp2
        go_quiet (fail)
        go_wp2
        go_roundw
        case rel => exact ⟨n + 1, by omega, by go_num, ⟨_, _, HS3.out.move (Below.drewN ((Below.refl _ _).alloc (Nat.le_refl _) _)), HD3.out, HN1.out, Below.drewN (HB3.out.alloc HB3.out.size _)⟩⟩
        case measure => simp [intOf]; omega
theorem LawEnds_any (s : ByteArray) (hs : s.size ≤ 140737488351232) (w : World) (hE : ET w) (hT : ∃ z, TabAny w z) (hg : 1 < w.heap.size) : Calls Tryd.prog 8 #[.string s] w fun e w' => e = .returned (.bool true) ∧ Below w.heap.size w w' := by
  obtain ⟨z, hz⟩ := hT
  by_cases hbig : 16777216 < s.size
  · exact LawEnds_big s w hbig hs
  · by_cases hc : (all s).2.code = 0
    · exact LawEnds_ok s w (by omega) hE hc
    · exact LawEnds_wrong s w z (by omega) hE hz hg hc
end Go.Proofs.YtghlfpeifdikkaaDoor
