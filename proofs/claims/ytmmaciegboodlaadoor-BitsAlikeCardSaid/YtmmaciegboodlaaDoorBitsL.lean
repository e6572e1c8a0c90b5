/- The seven statements on words, walked: each returns true and writes nothing that was there. -/
import Derived.Test.YtmmaciegboodlaaDoorBitsA
namespace Go.Proofs.YtmmaciegboodlaaDoor
open Go.RowKit Go.Proofs.YtmmaciegboodlaaDoor.BitsPure

theorem Drew.tab {w w' : World} (h : Drew w w') (ht : Tab w) : Tab w' := ht.below h.below
theorem word_of {a : Int} (h : (Lit.int .u32 a).wf = true) : ∃ n : Nat, a = n ∧ n < 4294967296 := by
  have h' : 0 ≤ a ∧ a ≤ 4294967295 := by simpa [Lit.wf, IntKind.min, IntKind.max, IntKind.bits, IntKind.signed] using h
  exact ⟨a.toNat, by omega, by omega⟩

set_option maxHeartbeats 400000 in
theorem BitsHigh_walk (n : Int) (w : World) (ht : Tab w) :
    Calls Tryd.prog 3 #[.int .i64 n] w fun e w' => e = .returned (.bool true) ∧ Below w.heap.size w w' := by
  by_cases hn : 0 ≤ n ∧ n ≤ 32
  · go_enter Tryd.func3, Tryd.ntmps3
    go_wp2_with (first | (go_at_call 10; refine (High_ok n hn.1 hn.2 _).mono ?_; rintro e w' ⟨rfl, rfl⟩) | (go_at_call 11; refine (rHigh_ok n hn.1 hn.2 _).mono ?_))
    rintro e w1 ⟨rfl, hd⟩
    go_wp2_with (go_at_call 12; refine (awake_any _ (hd.tab ht)).mono ?_)
    rintro e w2 ⟨rfl, hb⟩
    go_wp2
    go_ret
    exact ⟨rfl, below_then hd.below hb⟩
  · have hn' : n < 0 ∨ 32 < n := by omega
    go_enter Tryd.func3, Tryd.ntmps3
    go_wp2_with (first | (go_at_call 10; refine (High_bad n hn' _).mono ?_; rintro e w' ⟨rfl, rfl⟩) | (go_at_call 11; refine (rHigh_bad n hn' _).mono ?_))
    rintro e w1 ⟨rfl, hd⟩
    go_wp2_with (go_at_call 12; refine (awake_any _ (hd.tab ht)).mono ?_)
    rintro e w2 ⟨rfl, hb⟩
    go_wp2
    go_ret
    exact ⟨rfl, below_then hd.below hb⟩

set_option maxHeartbeats 400000 in
theorem BitsKeeps_walk (a n : Int) (wa : (Lit.int .u32 a).wf = true) (w : World) (ht : Tab w) :
    Calls Tryd.prog 4 #[.int .u32 a, .int .i64 n] w fun e w' => e = .returned (.bool true) ∧ Below w.heap.size w w' := by
  obtain ⟨a, rfl, ha⟩ := word_of wa
  clear wa
  by_cases hn : 0 ≤ n ∧ n ≤ 32
  · have K := Sd.mk (keep_keep a (high n.toNat))
    have C : ∀ W, Calls Tryd.prog 13 #[.int .u32 (a &&& high n.toNat : Nat), .int .i64 n] W fun e w' => e = .returned (.tuple #[.int .u32 (a &&& high n.toNat : Nat), .int .i64 0]) ∧ W = w' := fun W => by
      have := Keep_ok (a &&& high n.toNat) (keep_lt a _ ha) n hn.1 hn.2 W
      rw [K.out] at this; exact this
    have C' := Sd.mk C
    clear C K
    go_enter Tryd.func4, Tryd.ntmps4
    go_wp2_with (first | (go_at_call 13; refine (Keep_ok a ha n hn.1 hn.2 _).mono ?_; rintro e w' ⟨rfl, rfl⟩) | (go_at_call 14; refine (rKeep_ok a ha n hn.1 hn.2 _).mono ?_))
    rintro e w1 ⟨rfl, hd⟩
    go_wp2_with (first | (go_at_call 13; refine (C'.out _).mono ?_; rintro e w' ⟨rfl, rfl⟩) | (go_at_call 12; refine (awake_any _ (hd.tab ht)).mono ?_))
    rintro e w2 ⟨rfl, hb⟩
    go_wp2
    go_ret
    exact ⟨rfl, below_then hd.below hb⟩
  · have hn' : n < 0 ∨ 32 < n := by omega
    go_enter Tryd.func4, Tryd.ntmps4
    go_wp2_with (first | (go_at_call 13; refine (Keep_bad a ha n hn' _).mono ?_; rintro e w' ⟨rfl, rfl⟩) | (go_at_call 14; refine (rKeep_bad a n hn' _).mono ?_))
    rintro e w1 ⟨rfl, hd⟩
    go_wp2_with (first | (go_at_call 13; refine (Keep_bad 0 (by omega) n hn' _).mono ?_; rintro e w' ⟨rfl, rfl⟩) | (go_at_call 12; refine (awake_any _ (hd.tab ht)).mono ?_))
    rintro e w2 ⟨rfl, hb⟩
    go_wp2
    go_ret
    exact ⟨rfl, below_then hd.below hb⟩

set_option maxHeartbeats 400000 in
theorem BitsAt_walk (a i : Int) (wa : (Lit.int .u32 a).wf = true) (w : World) (ht : Tab w) :
    Calls Tryd.prog 5 #[.int .u32 a, .int .i64 i] w fun e w' => e = .returned (.bool true) ∧ Below w.heap.size w w' := by
  obtain ⟨a, rfl, ha⟩ := word_of wa
  clear wa
  by_cases hn : 0 ≤ i ∧ i < 32
  · go_enter Tryd.func5, Tryd.ntmps5
    go_wp2_with (first | (go_at_call 15; refine (At_ok a ha i hn.1 hn.2 _).mono ?_; rintro e w' ⟨rfl, rfl⟩) | (go_at_call 16; refine (rAt_ok a ha i hn.1 hn.2 _).mono ?_; rintro e w' ⟨rfl, rfl⟩) | (go_at_call 12; refine (awake_any _ ht).mono ?_))
    rintro e w2 ⟨rfl, hb⟩
    go_wp2
    go_ret
    exact ⟨rfl, hb⟩
  · have hn' : i < 0 ∨ 32 ≤ i := by omega
    go_enter Tryd.func5, Tryd.ntmps5
    go_wp2_with (first | (go_at_call 15; refine (At_bad a i hn' _).mono ?_; rintro e w' ⟨rfl, rfl⟩) | (go_at_call 16; refine (rAt_bad a i hn' _).mono ?_; rintro e w' ⟨rfl, rfl⟩) | (go_at_call 12; refine (awake_any _ ht).mono ?_))
    rintro e w2 ⟨rfl, hb⟩
    go_wp2
    go_ret
    exact ⟨rfl, hb⟩

set_option maxHeartbeats 400000 in
theorem BitsSame_walk (a b : Int) (wa : (Lit.int .u32 a).wf = true) (wb : (Lit.int .u32 b).wf = true) (w : World) (ht : Tab w) :
    Calls Tryd.prog 6 #[.int .u32 a, .int .u32 b] w fun e w' => e = .returned (.bool true) ∧ Below w.heap.size w w' := by
  obtain ⟨a, rfl, ha⟩ := word_of wa
  clear wa
  obtain ⟨b, rfl, hbb⟩ := word_of wb
  clear wb
  have C : ∀ W, Calls Tryd.prog 18 #[.int .u32 b, .int .u32 a] W fun e w' => e = .returned (.int .i64 (same a b : Nat)) ∧ W = w' := fun W => by
    have := Same_any b a hbb ha W
    rw [same_comm] at this; exact this
  have D : ∀ W, Calls Tryd.prog 18 #[.int .u32 a, .int .u32 a] W fun e w' => e = .returned (.int .i64 32) ∧ W = w' := fun W => by
    have := Same_any a a ha ha W
    rw [same_self] at this; exact this
  have C' := Sd.mk C
  have D' := Sd.mk D
  clear C D
  go_enter Tryd.func6, Tryd.ntmps6
  go_wp2_with (go_at_call 17; refine (rSame_any a b ha hbb _).mono ?_)
  rintro e w1 ⟨rfl, hd⟩
  go_wp2_with (go_at_call 12; refine (awake_any _ (hd.tab ht)).mono ?_)
  rintro e w2 ⟨rfl, hb2⟩
  go_wp2_with fail
  refine (Same_any a b ha hbb _).mono ?_
  rintro e w' ⟨rfl, rfl⟩
  go_wp2_with fail
  refine (C'.out _).mono ?_
  rintro e w' ⟨rfl, rfl⟩
  go_wp2_with fail
  refine (D'.out _).mono ?_
  rintro e w' ⟨rfl, rfl⟩
  go_wp2
  go_ret
  exact ⟨rfl, below_then hd.below hb2⟩

set_option maxHeartbeats 400000 in
theorem BitsCounts_walk (a : Int) (wa : (Lit.int .u32 a).wf = true) (w : World) (ht : Tab w) :
    Calls Tryd.prog 7 #[.int .u32 a] w fun e w' => e = .returned (.bool true) ∧ Below w.heap.size w w' := by
  obtain ⟨a, rfl, ha⟩ := word_of wa
  clear wa
  go_enter Tryd.func7, Tryd.ntmps7
  go_wp2_with (go_at_call 12; refine (awake_any _ ht).mono ?_)
  rintro e w2 ⟨rfl, hb2⟩
  have HT := Sd.mk (ht.below hb2)
  go_wp2_with (first | (go_at_call 19; refine (Low_any a ha _).mono ?_; rintro e w' ⟨rfl, rfl⟩) | (go_at_call 20; refine (rLow_any a ha _).mono ?_; rintro e w' ⟨rfl, rfl⟩) | (go_at_call 21; refine (Ones_any a ha _ HT.out).mono ?_; rintro e w' ⟨rfl, rfl⟩) | (go_at_call 22; refine (rOnes_any a ha _).mono ?_; rintro e w' ⟨rfl, rfl⟩) | (go_at_call 23; refine (Turn_any a ha _).mono ?_; rintro e w' ⟨rfl, rfl⟩) | (go_at_call 24; refine (rTurn_any a ha _).mono ?_; rintro e w' ⟨rfl, rfl⟩))
  go_ret
  exact ⟨rfl, hb2⟩

set_option maxHeartbeats 400000 in
theorem BitsAlike_bad (a b : Nat) (n : Int) (ha : a < 4294967296) (hb : b < 4294967296) (hn : n < 0 ∨ 32 < n) (w : World) (ht : Tab w) :
    Calls Tryd.prog 9 #[.int .u32 a, .int .u32 b, .int .i64 n] w fun e w' => e = .returned (.bool true) ∧ Below w.heap.size w w' := by
  have C1 := Sd.mk (fun W => Keep_bad a ha n hn W)
  have C2 := Sd.mk (fun W => Keep_bad b hb n hn W)
  rcases hn with hn | hn
  · go_enter Tryd.func9, Tryd.ntmps9
    go_wp2_with fail
    refine (C1.out _).mono ?_
    rintro e w' ⟨rfl, rfl⟩
    go_wp2_with fail
    refine (C2.out _).mono ?_
    rintro e w' ⟨rfl, rfl⟩
    go_wp2_with (go_at_call 12; refine (awake_any _ ht).mono ?_)
    rintro e w2 ⟨rfl, hb2⟩
    go_wp2
    go_ret
    exact ⟨rfl, hb2⟩
  · have hn' : 0 ≤ n := by omega
    go_enter Tryd.func9, Tryd.ntmps9
    go_wp2_with fail
    refine (C1.out _).mono ?_
    rintro e w' ⟨rfl, rfl⟩
    go_wp2_with fail
    refine (C2.out _).mono ?_
    rintro e w' ⟨rfl, rfl⟩
    go_wp2_with (go_at_call 12; refine (awake_any _ ht).mono ?_)
    rintro e w2 ⟨rfl, hb2⟩
    go_wp2
    go_ret
    exact ⟨rfl, hb2⟩
set_option maxHeartbeats 1000000 in
theorem BitsAlike_ok (a b : Nat) (n : Int) (ha : a < 4294967296) (hb : b < 4294967296) (h0 : 0 ≤ n) (h1 : n ≤ 32) (w : World) (ht : Tab w) :
    Calls Tryd.prog 9 #[.int .u32 a, .int .u32 b, .int .i64 n] w fun e w' => e = .returned (.bool true) ∧ Below w.heap.size w w' := by
  have C1 := Sd.mk (fun W => Keep_ok a ha n h0 h1 W)
  have C2 := Sd.mk (fun W => Keep_ok b hb n h0 h1 W)
  have C3 := Sd.mk (fun W => Turn_any a ha W)
  have C4 : ∀ W, Calls Tryd.prog 23 #[.int .u32 (turn a : Nat)] W fun e w' => e = .returned (.int .u32 (a : Nat)) ∧ W = w' := fun W => by
    have := Turn_any (turn a) (turn_lt a) W
    rw [turn_turn a ha] at this; exact this
  have C5 : ∀ W, Calls Tryd.prog 19 #[.int .u32 a] W fun e w' => e = .returned (.int .i64 (low a : Nat)) ∧ W = w' := fun W => Low_any a ha W
  have C6 : ∀ W, Calls Tryd.prog 18 #[.int .u32 (turn a : Nat), .int .u32 0] W fun e w' => e = .returned (.int .i64 (low a : Nat)) ∧ W = w' := fun W => by
    have := Same_any (turn a) 0 (turn_lt a) (by omega) W
    rw [← low_same] at this; exact this
  have hx : bits .xor .u32 IntKind.u32.max (a : Int) = ((a ^^^ 4294967295 : Nat) : Int) := by
    rw [Nat.xor_comm]; exact bits_xor 4294967295 a (by omega) ha
  have hxl : a ^^^ 4294967295 < 4294967296 := Nat.xor_lt_two_pow (lt32 ha) (by omega : (4294967295 : Nat) < 2 ^ 32)
  have C7 : ∀ W, Tab W → Calls Tryd.prog 21 #[.int .u32 a] W fun e w' => e = .returned (.int .i64 (ones a : Nat)) ∧ W = w' := fun W h => Ones_any a ha W h
  have C8 : ∀ W, Tab W → Calls Tryd.prog 21 #[.int .u32 (bits .xor .u32 IntKind.u32.max (a : Int))] W fun e w' => e = .returned (.int .i64 (ones (a ^^^ 4294967295) : Nat)) ∧ W = w' := fun W h => by
    rw [hx]; exact Ones_any _ hxl W h
  have D := Sd.mk (fun W => Same_any a b ha hb W)
  have K := Sd.mk (same_keep a b n.toNat ha hb (by omega))
  have ho := ones_not a
  have hl1 := ones_le a 32
  have hl2 := ones_le (a ^^^ 4294967295) 32
  have ho1 : (ones a : Int) ≤ 32 := by have : ones a ≤ 32 := hl1; omega
  have ho2 : (ones (a ^^^ 4294967295) : Int) ≤ 32 := by have : ones (a ^^^ 4294967295) ≤ 32 := hl2; omega
  have hoi : ((ones a : Int) + (ones (a ^^^ 4294967295) : Int) == 32) = true := by simp; omega
  have hC4 := Sd.mk C4; have hC5 := Sd.mk C5; have hC6 := Sd.mk C6; have hC7 := Sd.mk C7; have hC8 := Sd.mk C8
  clear C4 C5 C6 C7 C8 hx hxl ho hl1 hl2
  by_cases hk : n.toNat ≤ same a b
  · have e1 : decide (n ≤ (same a b : Int)) = true := by simp; omega
    have e2 : (((a &&& high n.toNat : Nat) : Int) == ((b &&& high n.toNat : Nat) : Int)) = true := by rw [K.out.1 hk]; simp
    clear hk
    go_enter Tryd.func9, Tryd.ntmps9
    go_wp2_with fail
    refine (C1.out _).mono ?_
    rintro e w' ⟨rfl, rfl⟩
    go_wp2_with fail
    refine (C2.out _).mono ?_
    rintro e w' ⟨rfl, rfl⟩
    go_wp2_with fail
    refine (C3.out _).mono ?_
    rintro e w' ⟨rfl, rfl⟩
    go_wp2_with fail
    refine (awake_any _ ht).mono ?_
    rintro e w2 ⟨rfl, hb2⟩
    have HT := Sd.mk (ht.below hb2)
    go_wp2_with fail
    refine (D.out _).mono ?_
    rintro e w' ⟨rfl, rfl⟩
    go_wp2_with fail
    refine (hC4.out _).mono ?_
    rintro e w' ⟨rfl, rfl⟩
    go_wp2_with fail
    refine (hC5.out _).mono ?_
    rintro e w' ⟨rfl, rfl⟩
    go_wp2_with fail
    refine (hC6.out _).mono ?_
    rintro e w' ⟨rfl, rfl⟩
    go_wp2_with fail
    refine (hC7.out _ HT.out).mono ?_
    rintro e w' ⟨rfl, rfl⟩
    go_wp2_with fail
    refine (hC8.out _ HT.out).mono ?_
    rintro e w' ⟨rfl, rfl⟩
    go_wp2
    go_ret
    exact ⟨rfl, hb2⟩
  · have e1 : decide (n ≤ (same a b : Int)) = false := by simp; omega
    have e2 : (((a &&& high n.toNat : Nat) : Int) == ((b &&& high n.toNat : Nat) : Int)) = false := by
      have : ¬ (a &&& high n.toNat = b &&& high n.toNat) := fun h => hk (K.out.2 h)
      simp; omega
    clear hk
    go_enter Tryd.func9, Tryd.ntmps9
    go_wp2_with fail
    refine (C1.out _).mono ?_
    rintro e w' ⟨rfl, rfl⟩
    go_wp2_with fail
    refine (C2.out _).mono ?_
    rintro e w' ⟨rfl, rfl⟩
    go_wp2_with fail
    refine (C3.out _).mono ?_
    rintro e w' ⟨rfl, rfl⟩
    go_wp2_with fail
    refine (awake_any _ ht).mono ?_
    rintro e w2 ⟨rfl, hb2⟩
    have HT := Sd.mk (ht.below hb2)
    go_wp2_with fail
    refine (D.out _).mono ?_
    rintro e w' ⟨rfl, rfl⟩
    go_wp2_with fail
    refine (hC4.out _).mono ?_
    rintro e w' ⟨rfl, rfl⟩
    go_wp2_with fail
    refine (hC5.out _).mono ?_
    rintro e w' ⟨rfl, rfl⟩
    go_wp2_with fail
    refine (hC6.out _).mono ?_
    rintro e w' ⟨rfl, rfl⟩
    go_wp2_with fail
    refine (hC7.out _ HT.out).mono ?_
    rintro e w' ⟨rfl, rfl⟩
    go_wp2_with fail
    refine (hC8.out _ HT.out).mono ?_
    rintro e w' ⟨rfl, rfl⟩
    go_wp2
    go_ret
    exact ⟨rfl, hb2⟩

set_option maxHeartbeats 400000 in
theorem BitsAlike_walk (a b n : Int) (wa : (Lit.int .u32 a).wf = true) (wb : (Lit.int .u32 b).wf = true) (w : World) (ht : Tab w) :
    Calls Tryd.prog 9 #[.int .u32 a, .int .u32 b, .int .i64 n] w fun e w' => e = .returned (.bool true) ∧ Below w.heap.size w w' := by
  obtain ⟨a, rfl, ha⟩ := word_of wa
  obtain ⟨b, rfl, hb⟩ := word_of wb
  by_cases hn : 0 ≤ n ∧ n ≤ 32
  · exact BitsAlike_ok a b n ha hb hn.1 hn.2 w ht
  · exact BitsAlike_bad a b n ha hb (by omega) w ht

/-! ### BitsText -/
theorem text_get (a n k : Nat) (h : k < (⟨(text a n).toArray⟩ : ByteArray).size) : ((⟨(text a n).toArray⟩ : ByteArray)[k]'h).toNat = 48 + bit a (31 - k) := by
  have hb := bit_lt a (31 - k)
  show ((text a n).toArray[k]'_).toNat = _
  simp only [text, List.getElem_toArray, List.getElem_map, List.getElem_range, UInt8.toNat_ofNat']
  omega
set_option maxHeartbeats 1000000 in
theorem BitsText_ok (a : Nat) (ha : a < 4294967296) (n : Int) (h0 : 0 ≤ n) (h1 : n ≤ 32) (w : World) (ht : Tab w) :
    Calls Tryd.prog 8 #[.int .u32 a, .int .i64 n] w fun e w' => e = .returned (.bool true) ∧ Below w.heap.size w w' := by
  have hsz : (⟨(text a n.toNat).toArray⟩ : ByteArray).size = n.toNat := by simp [ByteArray.size, text_length]
  have HT := Sd.mk ht
  clear ht
  obtain ⟨s, hs⟩ : ∃ s : ByteArray, s = ⟨(text a n.toNat).toArray⟩ := ⟨_, rfl⟩
  have hget : ∀ (k : Nat) (h : k < s.size), (s[k]'h).toNat = 48 + bit a (31 - k) := by
    subst hs; intro k h; exact text_get a n.toNat k h
  have hle : s.size ≤ 32 := by subst hs; omega
  have C1 : ∀ W, Calls Tryd.prog 25 #[.int .u32 a, .int .i64 n] W fun e w' => e = .returned (.tuple #[.string s, .int .i64 0]) ∧ Below W.heap.size W w' := fun W => by subst hs; exact Text_ok a ha n h0 h1 W
  have C2 : ∀ W, Calls Tryd.prog 26 #[.int .u32 a, .int .i64 n] W fun e w' => e = .returned (.tuple #[.string s, .int .i64 0]) ∧ Below W.heap.size W w' := fun W => by subst hs; exact rText_ok a ha n h0 h1 W
  have HG := Sd.mk hget
  have D1 := Sd.mk C1
  have D2 := Sd.mk C2
  clear C1 C2 hget hs hsz
  go_enter Tryd.func8, Tryd.ntmps8
  go_wp2_with (go_at_call 25; refine (D1.out _).mono ?_)
  rintro e w1 ⟨rfl, hb1⟩
  go_wp2_with (go_at_call 26; refine (D2.out _).mono ?_)
  rintro e w2 ⟨rfl, hb2⟩
  have hb := Sd.mk (below_then hb1 hb2)
  clear hb1 hb2
  go_wp2
  go_loop [9, 10, 11] (fun i _ _ => ∃ k : Nat, k ≤ s.size ∧ i = .int .i64 k) (fun i _ _ => 32 - (intOf i).toNat)
  case atStart => exact ⟨0, by omega, rfl⟩
  case round =>
    obtain ⟨k, hk, rfl⟩ := hrel
    by_cases hlt : k < s.size
    · have hg := HG.out k hlt
      have hbit := bit_lt a (31 - k)
      have ht : (wrap64 ((s[k]'hlt).toNat : Int) != 48 + (bit a (31 - k) : Nat)) = false := by
        have e : wrap64 ((s[k]'hlt).toNat : Int) = 48 + (bit a (31 - k) : Nat) := by rw [hg]; unfold wrap64; omega
        rw [e]; simp
      clear hg
      go_wp2_with (go_at_call 15; refine (At_ok a ha _ (by omega) (by omega) _).mono ?_; rintro e w' ⟨rfl, rfl⟩)
      go_round
      case rel => exact ⟨k + 1, by omega, by go_num⟩
      case measure => simp [intOf]; omega
    · have HT2 := Sd.mk (HT.out.below hb.out)
      go_wp2_with (go_at_call 12; refine (awake_any _ HT2.out).mono ?_)
      rintro e w3 rfl hb3
      go_wp2
      go_ret
      exact ⟨rfl, below_then hb.out hb3⟩
set_option maxHeartbeats 400000 in
theorem BitsText_bad (a : Nat) (n : Int) (hn : n < 0 ∨ 32 < n) (w : World) (ht : Tab w) :
    Calls Tryd.prog 8 #[.int .u32 a, .int .i64 n] w fun e w' => e = .returned (.bool true) ∧ Below w.heap.size w w' := by
  have D1 := Sd.mk (fun W => Text_bad a n hn W)
  have D2 := Sd.mk (fun W => rText_bad a n hn W)
  have HT := Sd.mk ht
  clear ht
  go_enter Tryd.func8, Tryd.ntmps8
  go_wp2_with (go_at_call 25; refine (D1.out _).mono ?_; rintro e w' ⟨rfl, rfl⟩)
  refine (D2.out _).mono ?_
  rintro e w2 ⟨rfl, hd⟩
  have HT2 := Sd.mk (hd.tab HT.out)
  go_wp2
  refine wp_loop_rounds 1 ?_
  rw [rounds_succ]
  go_wp2_with (go_at_call 12; refine (awake_any _ HT2.out).mono ?_)
  rintro e w3 ⟨rfl, hb3⟩
  go_wp2
  go_ret
  exact ⟨rfl, below_then hd.below hb3⟩
theorem BitsText_walk (a n : Int) (wa : (Lit.int .u32 a).wf = true) (w : World) (ht : Tab w) :
    Calls Tryd.prog 8 #[.int .u32 a, .int .i64 n] w fun e w' => e = .returned (.bool true) ∧ Below w.heap.size w w' := by
  obtain ⟨a, rfl, ha⟩ := word_of wa
  by_cases hn : 0 ≤ n ∧ n ≤ 32
  · exact BitsText_ok a ha n hn.1 hn.2 w ht
  · exact BitsText_bad a n (by omega) w ht

end Go.Proofs.YtmmaciegboodlaaDoor
