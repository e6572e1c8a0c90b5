/- The reference's All. -/
import Derived.Test.YtghlfpeifdikkaaDoorLexA
namespace Go.Proofs.YtghlfpeifdikkaaDoor
open Go.RowKit Go.Proofs.YtghlfpeifdikkaaDoor.Lex

def AllOut (s : ByteArray) (w : World) (e : Ending) (w' : World) : Prop :=
  ∃ v, e = .returned (.tuple #[v, wrV (all s).2]) ∧ Own w' w.heap.size v (all s).1 ∧ Below w.heap.size w w'
/-- a list of its own, the result's cell, and all below as it was -/
structure Mid (w : World) (l : List Tk) (v : Value) (wr : World) : Prop where
  own : Own wr (w.heap.size + 1) v l
  res : Blk wr w.heap.size #[.int .i64 0, .int .i64 0, .int .i64 0] 25
  bel : Below w.heap.size w wr
section
variable {w wr : World} {l : List Tk} {v : Value}
theorem Mid.lt (h : Mid w l v wr) : ∀ g, v.ownBlock = some g → w.heap.size + 1 ≤ g ∧ g < wr.heap.size := h.own.lt
theorem Mid.alloc (h : Mid w l v wr) (o : Obj) : Mid w l v (wr.alloc o) := ⟨World.ownsRow.alloc h.own o, h.res.alloc o, h.bel.alloc h.bel.size o⟩
theorem Mid.move {w1 : World} (h : Mid w l v wr) (hb : Below wr.heap.size wr w1) : Mid w l v w1 :=
  ⟨ownsRow_below h.own hb (fun g e => (h.lt g e).2), h.res.below hb h.res.lt, h.bel.trans (hb.mono h.bel.size)⟩
theorem Mid.app {w2 : World} {v' : Value} (h : Mid w l v wr) {m : List Tk} (hown : w2.ownsRow (w.heap.size + 1) 38 5 v' (l.length + m.length) (tksC l ++ tksC m)) (hg : wr.grownBy w2 v.ownBlock) : Mid w (l ++ m) v' w2 :=
  ⟨by unfold Own; rw [tksC_app, List.length_append]; exact hown, h.res.kept hg (fun e => by have := (h.lt _ e.symm).1; omega), h.bel.grown hg h.bel.size (fun k e => by have := (h.lt _ e).1; omega)⟩
theorem Mid.out (h : Mid w l v wr) {s : ByteArray} {x : Wr} (hx : all s = (l, x)) : AllOut s w (.returned (.tuple #[v, wrV x])) (store3 wr w.heap.size x) :=
  ⟨v, by rw [hx], by rw [hx]; exact store3_own h.own x, store3_below h.bel x⟩
end
structure AllInv (s : ByteArray) (w : World) (n i : Nat) (l : List Tk) (v : Value) (wr : World) : Prop where
  mid : Mid w l v wr
  len : l.length ≤ i
  cnt : n ≤ i
  eq : linesFrom s 1 0 = (l ++ (linesFrom s (n + 1) i).1, (linesFrom s (n + 1) i).2)
theorem tkC_end {t : ByteArray} {m k j : Nat} (h : k ≤ j) : [Value.int .i64 4, .string t, .int .u32 0, .int .i64 ((m : Int) + 1), .int .i64 ((j : Int) - k + 1)] = tkC ⟨4, t, 0, m + 1, j - k + 1⟩ := by
  simp only [tkC]
  rw [show ((j : Int) - k + 1) = ((j - k + 1 : Nat) : Int) from by omega]
  rfl
theorem AllInv.next {s : ByteArray} {w : World} {m k j : Nat} {l L : List Tk} {v v4 : Value} {wr w4 : World} {x : Wr} {T : ByteArray} (h : AllInv s w m k l v wr) (hk : k < s.size) (hj : eol s k = j) (hx : lineR (s.extract k j) (m + 1) = (L, x)) (hc : x.code = 0)
    (hT : T = s.extract j (j + 1)) (hm : Mid w ((l ++ L) ++ [⟨4, T, 0, m + 1, j - k + 1⟩]) v4 w4) (hL : L.length ≤ j - k) (hjk : k ≤ j) : AllInv s w (m + 1) (j + 1) ((l ++ L) ++ [⟨4, T, 0, m + 1, j - k + 1⟩]) v4 w4 := by
  refine ⟨hm, ?_, ?_, ?_⟩
  · have := h.len; simp; omega
  · have := h.cnt; omega
  · rw [h.eq, lines_step s (m + 1) k hk, hj, hx, hT]
    simp [hc]
theorem AllInv.wrong {s : ByteArray} {w : World} {m k j : Nat} {l L : List Tk} {v : Value} {wr : World} {x : Wr} (h : AllInv s w m k l v wr) (hk : k < s.size) (hj : eol s k = j) (hx : lineR (s.extract k j) (m + 1) = (L, x)) (hc : x.code > 0) (hs : all s = linesFrom s 1 0) :
    all s = (l ++ L, x) := by
  rw [hs, h.eq, lines_step s (m + 1) k hk, hj, hx]
  rw [if_pos (by simp only; omega)]
theorem AllOut.drew {s : ByteArray} {w w' : World} {e : Ending} (h : AllOut s w e w') : AllOut s w e w'.drew := by
  obtain ⟨v, h1, h2, h3⟩ := h
  exact ⟨v, h1, h2, h3.drew⟩
theorem store3_drew {w3 : World} {n B : Nat} {x : Wr} {s : ByteArray} {w : World} {e : Ending} (h : AllOut s w e (store3 w3 B x)) : AllOut s w e (store3 (w3.drewN n) B x) := by
  obtain ⟨v, h1, h2, h3⟩ := h
  exact ⟨v, h1, h2, ⟨h3.os, h3.tape, h3.output, h3.size, h3.block⟩⟩
theorem lines_over (s : ByteArray) (no i : Nat) (h : ¬ i < s.size) : linesFrom s no i = ([], ok) := by unfold linesFrom; rw [dif_neg h]

set_option maxHeartbeats 4000000 in
set_option maxRecDepth 100000 in
theorem refAll_any (s : ByteArray) (w : World) (hs : s.size ≤ 140737488351232) :
    Calls Tryd.prog 9 #[.string s] w (AllOut s w) := by
  by_cases hbig : 65536 < s.size
  · have HL : Sd (all s = ([], ⟨2, 0, 0⟩)) := ⟨by unfold all; rw [if_pos hbig]⟩
    go_enter Tryd.func9, Tryd.ntmps9
    go_wp2
    refine bodyPost_ret (v := .tuple #[.slice none 0 0, wrV ⟨2, 0, 0⟩]) ?_ rfl ?_
    · simp [results, Tryd.results9, go_sem, wrV]
    · refine ⟨_, by rw [HL.out], ?_, (Below.refl _ _).alloc (Nat.le_refl _) _⟩
      rw [HL.out]; exact World.ownsRow_nil _ _ _ _
  · have HL : Sd (all s = linesFrom s 1 0) := ⟨by unfold all; rw [if_neg hbig]⟩
    have hbig2 : s.size ≤ 65536 := by omega
    clear hbig
    obtain ⟨i0, hi, hz0, hz1, hz2⟩ := info_parts infoTok
    have HI := Sd.mk (And.intro hi (And.intro hz0 (And.intro hz1 hz2)))
    clear hi hz0 hz1 hz2
    go_enter Tryd.func9, Tryd.ntmps9
    go_wp2
    go_loopw [4, 5, 6] (fun v n i wr => ∃ (m k : Nat) (l : List Tk), k ≤ s.size + 1 ∧ m ≤ k ∧ n = .int .i64 m ∧ i = .int .i64 k ∧ Sd (AllInv s w m k l v wr)) (fun _ _ i _ => s.size + 1 - (intOf i).toNat)
    case atStart => exact ⟨0, 0, [], by omega, by omega, rfl, rfl, ⟨⟨World.ownsRow_nil _ _ _ _, Blk.new _ _ _, (Below.refl _ _).alloc (Nat.le_refl _) _⟩, by simp, by omega, by simp⟩⟩
    case round =>
      obtain ⟨m, k, l, hk, hm, rfl, rfl, HR⟩ := hrel
      have hres := HR.out.mid.res
      have r0 := hres.at 0
      have r1 := hres.at 1
      have r2 := hres.at 2
      have rf := hres.frozen
      have hsz := hres.lt
      clear hres
      by_cases hlt : k < s.size
      · go_wp2
        go_loop [7] (fun i => ∃ j : Nat, k ≤ j ∧ j ≤ eol s k ∧ i = .int .i64 j) (fun i => s.size - (intOf i).toNat)
        case atStart => exact ⟨k, by omega, eol_le s k, rfl⟩
        case round =>
          obtain ⟨j, hj1, hj2, rfl⟩ := hrel
          have he := eol_ge s k (by omega)
          by_cases hje : j < eol s k
          · have h10 := eol_in s k j hj1 hje
            have e10 : (((s[j]'(by omega)).toNat : Int) != 10) = true := by have := get_at s j (by omega); simp; omega
            clear h10
            go_wp2
            go_round
            case rel => exact ⟨j + 1, by omega, by omega, by go_num⟩
            case measure => simp [intOf]; omega
          · have hje2 : eol s k = j := by omega
            have HJ := Sd.mk hje2
            clear hje hj2
            rw [hje2] at he
            clear hje2
            have KL : ∀ w, Calls Tryd.prog 20 #[.string (s.extract k j), .int .i64 ((m : Int) + 1)] w (LineOut (s.extract k j) (m + 1) w) := fun w => line_any (s.extract k j) (m + 1) w
            have KL := Sd.mk KL
            obtain ⟨⟨L, x⟩, hx⟩ : ∃ p, lineR (s.extract k j) (m + 1) = p := ⟨_, rfl⟩
            unfold LineOut wrV at KL
            rw [hx] at KL
            have hL : L.length ≤ j - k := by have := lineR_len (s.extract k j) (m + 1); rw [hx, ByteArray.size_extract] at this; simp only at this; omega
            have hl := HR.out.len
            have HX := Sd.mk hx
            clear hx
            rcases Nat.lt_or_ge j s.size with hjs | hjs
            · have e10 : (((s[j]'hjs).toNat : Int) != 10) = false := by have := get_at s j hjs; have := eol_byte s k (by have := HJ.out; omega); rw [HJ.out] at this; simp; omega
              go_wp2_with fail
              refine (KL.out _).mono ?_
              rintro e w1 ⟨v2, rfl, hown2, hb1⟩
              have HM1 := Sd.mk (HR.out.mid.move hb1)
              have HO2 := Sd.mk hown2
              have hs1 := hb1.size
              clear hown2 hb1 r0 r1 r2 rf
              rcases Nat.eq_zero_or_pos x.code with hc | hc
              · have ec : ((x.code : Int) != 0) = false := by rw [hc]; rfl
                have HC := Sd.mk hc
                clear hc
                go_wp2_with (first | (at_builtin; refine wpList_append_own _ rfl _ _ 22 rfl (w.heap.size + 1) 38 i0 _ 5 48 Tryd.underlying22 HI.out.1 HI.out.2.1 HI.out.2.2.1 HI.out.2.2.2 rfl (by decide) v3 (l ++ L).length (tksC (l ++ L)) rfl ((HM3.out.alloc _).alloc _).own ⟨w3.heap.size + 1, 0, none⟩ 1 1 [.int .i64 4, .string (s.extract j (j + 1)), .int .u32 0, .int .i64 ((m : Int) + 1), .int .i64 ((j : Int) - k + 1)] rfl rfl (cells_new _ [.int .i64 4, .string (s.extract j (j + 1)), .int .u32 0, .int .i64 ((m : Int) + 1), .int .i64 ((j : Int) - k + 1)] _ (by simp)) (by rw [tkC_end hj1]; exact tk_one _) (by unfold maxLen; simp; omega) (by simp; omega) (by simp; omega) ?_; intro v4 w4 hown4 hg4 _; rw [tkC_end hj1] at hown4; have HM4 := Sd.mk (((HM3.out.alloc _).alloc _).app (m := [⟨4, s.extract j (j + 1), 0, m + 1, j - k + 1⟩]) hown4 hg4); clear hown4 hg4) | (at_builtin; refine wpList_append_list rfl _ _ 22 rfl (w.heap.size + 1) 38 i0 _ 5 48 Tryd.underlying22 HI.out.1 HI.out.2.1 HI.out.2.2.1 HI.out.2.2.2 rfl (by decide) u4 l.length (tksC l) rfl (HM1.out.alloc _).own v2 wr.heap.size L.length (tksC L) rfl (World.ownsRow.alloc HO2.out _) (tks_one _) (by unfold maxLen; omega) (by omega) (by simp; omega) ?_; intro v3 w3 hown3 hg3; have HM3 := Sd.mk ((HM1.out.alloc _).app hown3 hg3); have hbox := (Blk.new w1 _ _).kept hg3 (fun e => by have := (HM1.out.lt _ e.symm).2; omega); have b0 := hbox.at 0; have hl3 := hbox.lt; clear hown3 hg3 hbox))
                go_roundw
                case rel => exact ⟨m + 1, j + 1, _, by omega, by omega, by go_num, by go_num, ⟨HR.out.next hlt HJ.out HX.out HC.out rfl HM4.out hL hj1⟩⟩
                case measure => simp [intOf]; omega
              · have ec : ((x.code : Int) != 0) = true := by simp; omega
                go_wp2_with (at_builtin; refine wpList_append_list rfl _ _ 22 rfl (w.heap.size + 1) 38 i0 _ 5 48 Tryd.underlying22 HI.out.1 HI.out.2.1 HI.out.2.2.1 HI.out.2.2.2 rfl (by decide) u4 l.length (tksC l) rfl (HM1.out.alloc _).own v2 wr.heap.size L.length (tksC L) rfl (World.ownsRow.alloc HO2.out _) (tks_one _) (by unfold maxLen; omega) (by omega) (by simp; omega) ?_; intro v3 w3 hown3 hg3; have HM3 := Sd.mk ((HM1.out.alloc _).app hown3 hg3); have hbox := (Blk.new w1 _ _).kept hg3 (fun e => by have := (HM1.out.lt _ e.symm).2; omega); have b0 := hbox.at 0; have b1 := hbox.at 1; have b2 := hbox.at 2; have hl3 := hbox.lt; clear hown3 hg3 hbox; have r0 := HM3.out.res.at 0; have r1 := HM3.out.res.at 1; have r2 := HM3.out.res.at 2; have rf := HM3.out.res.frozen; have hw3 := HM3.out.res.lt)
                have hne : w.heap.size < w1.heap.size := by omega
                go_region
                all_goals
                  go_wp2
                  refine bodyPost_ret (v := .tuple #[v3, wrV x]) ?_ rfl (HM3.out.out (HR.out.wrong hlt HJ.out HX.out hc HL.out)).drew
                  simp [results, Tryd.results9, go_sem, wrV, r0, r1, r2]
            · have HT : Sd ((⟨#[]⟩ : ByteArray) = s.extract j (j + 1)) := ⟨(ByteArray.extract_eq_empty_iff.2 (by omega)).symm⟩
              go_wp2_with fail
              refine (KL.out _).mono ?_
              rintro e w1 ⟨v2, rfl, hown2, hb1⟩
              have HM1 := Sd.mk (HR.out.mid.move hb1)
              have HO2 := Sd.mk hown2
              have hs1 := hb1.size
              clear hown2 hb1 r0 r1 r2 rf
              rcases Nat.eq_zero_or_pos x.code with hc | hc
              · have ec : ((x.code : Int) != 0) = false := by rw [hc]; rfl
                have HC := Sd.mk hc
                clear hc
                go_wp2_with (first | (at_builtin; refine wpList_append_own _ rfl _ _ 22 rfl (w.heap.size + 1) 38 i0 _ 5 48 Tryd.underlying22 HI.out.1 HI.out.2.1 HI.out.2.2.1 HI.out.2.2.2 rfl (by decide) v3 (l ++ L).length (tksC (l ++ L)) rfl ((HM3.out.alloc _).alloc _).own ⟨w3.heap.size + 1, 0, none⟩ 1 1 [.int .i64 4, .string ⟨#[]⟩, .int .u32 0, .int .i64 ((m : Int) + 1), .int .i64 ((j : Int) - k + 1)] rfl rfl (cells_new _ [.int .i64 4, .string ⟨#[]⟩, .int .u32 0, .int .i64 ((m : Int) + 1), .int .i64 ((j : Int) - k + 1)] _ (by simp)) (by rw [tkC_end hj1]; exact tk_one _) (by unfold maxLen; simp; omega) (by simp; omega) (by simp; omega) ?_; intro v4 w4 hown4 hg4 _; rw [tkC_end hj1] at hown4; have HM4 := Sd.mk (((HM3.out.alloc _).alloc _).app (m := [⟨4, ⟨#[]⟩, 0, m + 1, j - k + 1⟩]) hown4 hg4); clear hown4 hg4) | (at_builtin; refine wpList_append_list rfl _ _ 22 rfl (w.heap.size + 1) 38 i0 _ 5 48 Tryd.underlying22 HI.out.1 HI.out.2.1 HI.out.2.2.1 HI.out.2.2.2 rfl (by decide) u4 l.length (tksC l) rfl (HM1.out.alloc _).own v2 wr.heap.size L.length (tksC L) rfl (World.ownsRow.alloc HO2.out _) (tks_one _) (by unfold maxLen; omega) (by omega) (by simp; omega) ?_; intro v3 w3 hown3 hg3; have HM3 := Sd.mk ((HM1.out.alloc _).app hown3 hg3); have hbox := (Blk.new w1 _ _).kept hg3 (fun e => by have := (HM1.out.lt _ e.symm).2; omega); have b0 := hbox.at 0; have hl3 := hbox.lt; clear hown3 hg3 hbox))
                go_roundw
                case rel => exact ⟨m + 1, j + 1, _, by omega, by omega, by go_num, by go_num, ⟨HR.out.next hlt HJ.out HX.out HC.out HT.out HM4.out hL hj1⟩⟩
                case measure => simp [intOf]; omega
              · have ec : ((x.code : Int) != 0) = true := by simp; omega
                go_wp2_with (at_builtin; refine wpList_append_list rfl _ _ 22 rfl (w.heap.size + 1) 38 i0 _ 5 48 Tryd.underlying22 HI.out.1 HI.out.2.1 HI.out.2.2.1 HI.out.2.2.2 rfl (by decide) u4 l.length (tksC l) rfl (HM1.out.alloc _).own v2 wr.heap.size L.length (tksC L) rfl (World.ownsRow.alloc HO2.out _) (tks_one _) (by unfold maxLen; omega) (by omega) (by simp; omega) ?_; intro v3 w3 hown3 hg3; have HM3 := Sd.mk ((HM1.out.alloc _).app hown3 hg3); have hbox := (Blk.new w1 _ _).kept hg3 (fun e => by have := (HM1.out.lt _ e.symm).2; omega); have b0 := hbox.at 0; have b1 := hbox.at 1; have b2 := hbox.at 2; have hl3 := hbox.lt; clear hown3 hg3 hbox; have r0 := HM3.out.res.at 0; have r1 := HM3.out.res.at 1; have r2 := HM3.out.res.at 2; have rf := HM3.out.res.frozen; have hw3 := HM3.out.res.lt)
                have hne : w.heap.size < w1.heap.size := by omega
                go_region
                all_goals
                  go_wp2
                  refine bodyPost_ret (v := .tuple #[v3, wrV x]) ?_ rfl (HM3.out.out (HR.out.wrong hlt HJ.out HX.out hc HL.out)).drew
                  simp [results, Tryd.results9, go_sem, wrV, r0, r1, r2]
      · have HE := Sd.mk (lines_over s (m + 1) k hlt)
        go_wp2
        refine bodyPost_ret (v := .tuple #[u4, wrV ok]) ?_ rfl (HR.out.mid.out (by rw [HL.out, HR.out.eq, HE.out]; simp))
        simp [results, Tryd.results9, go_sem, wrV, r0, r1, r2, ok]
end Go.Proofs.YtghlfpeifdikkaaDoor
