/- What Text and the reference's Text give back: the first bits as bytes. -/
import Derived.Test.YtmmaciegboodlaaDoorBitsF
import Derived.Test.YtmmaciegboodlaaDoorBuilder
import Derived.Laws.BytesArg
namespace Go.Proofs.YtmmaciegboodlaaDoor
open Go.RowKit Go.Proofs.YtmmaciegboodlaaDoor.BitsPure

theorem Drew.below {w w' : World} (h : Drew w w') : Below w.heap.size w w' := by
  obtain ⟨n, rfl⟩ := h
  exact ⟨rfl, rfl, rfl, Nat.le_refl _, fun _ _ => rfl⟩

theorem ret_str {k : IntKind} {s t : ByteArray} {a : Int} (h : s = t) : Ending.returned (.tuple #[.string s, .int k a]) = .returned (.tuple #[.string t, .int k a]) := by rw [h]

/-- the first k bits of a, as bytes -/
def text (a k : Nat) : List UInt8 := (List.range k).map fun i => UInt8.ofNat (48 + bit a (31 - i))
theorem text_length (a k : Nat) : (text a k).length = k := by simp [text]
theorem text_snoc (a k : Nat) : text a (k + 1) = text a k ++ [UInt8.ofNat (48 + bit a (31 - k))] := by simp [text, List.range_succ]
theorem byteCells_snoc (a k : Nat) : Lib.byteCells (text a (k + 1)) = Lib.byteCells (text a k) ++ [.int .u8 (48 + bit a (31 - k) : Nat)] := by
  have hb := bit_lt a (31 - k)
  rw [text_snoc]
  simp only [Lib.byteCells, List.map_append, List.map_cons, List.map_nil]
  congr 2
  have : (UInt8.ofNat (48 + bit a (31 - k))).toNat = 48 + bit a (31 - k) := by
    rw [UInt8.toNat_ofNat']; omega
  rw [this]
theorem byteCells_len (a k : Nat) : (Lib.byteCells (text a k)).length = k := by simp [Lib.byteCells, text_length]
theorem byte_val (a k : Nat) (ha : a < 4294967296) : (48 + bits .and .u32 ((a : Int) / 2 ^ (31 - k)) 1) % 256 = ((48 + bit a (31 - k) : Nat) : Int) := by
  have hb := bit_lt a (31 - k)
  rw [shr_and a _ ha]; omega

set_option maxHeartbeats 400000 in
theorem length_yes (n : Int) (h0 : 0 ≤ n) (h1 : n ≤ 32) (w : World) :
    Calls Tryd.prog 27 #[.int .i64 n] w fun e w' => e = .returned (.bool true) ∧ w = w' := by
  have h2 : decide (n ≤ 32) = true := by simp; omega
  go_enter Tryd.func27, Tryd.ntmps27
  go_wp2
  go_ret
  exact ⟨rfl, rfl⟩

set_option maxHeartbeats 1000000 in
theorem Text_ok (a : Nat) (ha : a < 4294967296) (n : Int) (h0 : 0 ≤ n) (h1 : n ≤ 32) (w : World) :
    Calls Tryd.prog 25 #[.int .u32 a, .int .i64 n] w fun e w' => e = .returned (.tuple #[.string ⟨(text a n.toNat).toArray⟩, .int .i64 0]) ∧ Below w.heap.size w w' := by
  go_enter Tryd.func25, Tryd.ntmps25
  go_wp2_with (go_at_call 27; refine (length_yes _ h0 h1 _).mono ?_; rintro e w' ⟨rfl, rfl⟩)
  go_loopw [7, 12] (fun _ i wr => ∃ k : Nat, (k : Int) ≤ n ∧ i = .int .i64 k ∧ Lib.IsBuilder 45 5 w.heap.size w.heap.size (Lib.byteCells (text a k)) wr ∧ Below w.heap.size w wr) (fun _ i _ => 32 - (intOf i).toNat)
  case atStart => exact ⟨0, by omega, rfl, Lib.fresh_isBuilder _ _ w, (Below.refl _ _).alloc (Nat.le_refl _) _⟩
  case round =>
    obtain ⟨k, hk, rfl, hB, hb⟩ := hrel
    have HB := Sd.mk hB
    have hl := byteCells_len a k
    have hlen : (Lib.byteCells (text a k)).length + 1 ≤ 140737488355328 := by omega
    have HL := Sd.mk hlen
    have hsz := hb.size
    clear hB hl hlen
    by_cases hlt : (k : Int) < n
    · have HV := Sd.mk (byte_val a k ha)
      go_wp2_with (go_at_call 28; refine (WriteByte_any w.heap.size w.heap.size _ _ _ HB.out HL.out hsz).mono ?_)
      rintro e w1 ⟨rfl, h1, hb1⟩
      have H1 := Sd.mk h1
      clear h1
      go_wp2
      go_roundw
      case rel => exact ⟨k + 1, by omega, by go_num, Or.inr (by rw [byteCells_snoc, ← HV.out]; exact H1.out), hb.trans hb1⟩
      case measure => simp [intOf]; omega
    · have e : n.toNat = k := by omega
      have E := Sd.mk e
      clear e
      go_wp2_with (go_at_call 29; refine (Tryd.Builder_String_any w.heap.size w.heap.size _ _ HB.out hsz).mono ?_)
      rintro e w1 rfl hb1
      go_wp2
      go_ret2
      exact ⟨ret_str (by rw [E.out]), hb.trans hb1⟩
set_option maxHeartbeats 400000 in
theorem Text_bad (a : Nat) (n : Int) (h : n < 0 ∨ 32 < n) (w : World) :
    Calls Tryd.prog 25 #[.int .u32 a, .int .i64 n] w fun e w' => e = .returned (.tuple #[.string ⟨#[]⟩, .int .i64 1]) ∧ w = w' := by
  rcases h with h | h
  · go_enter Tryd.func25, Tryd.ntmps25
    go_wp2
    all_goals (go_ret2; exact ⟨rfl, rfl⟩)
  · have h' : 0 ≤ n := by omega
    have h2 : decide (n ≤ 32) = false := by simp; omega
    go_enter Tryd.func25, Tryd.ntmps25
    go_wp2
    all_goals (go_ret2; exact ⟨rfl, rfl⟩)

theorem conv_one (wr : World) (c : Int) : (convert 43 9 (.slice (some ⟨wr.heap.size, 0, none⟩) 1 1)).run Tryd.prog (wr.alloc (.cells #[.int .u8 c] 5)) = .ok (.string ⟨#[UInt8.ofNat c.toNat]⟩) (wr.alloc (.cells #[.int .u8 c] 5)) := by
  have hc : ∀ i, i < 1 → (wr.alloc (.cells #[.int .u8 c] 5)).cell? ⟨wr.heap.size, 0 + i, none⟩ = some (.int .u8 ([c].getD i 0)) := by
    intro i hi
    have e : i = 0 := by omega
    subst e
    simp
  exact run_convert_bytes_arg (P := Tryd.prog) _ _ 5 Tryd.underlying43 Tryd.underlying5 wr.heap.size 0 1 1 [c] rfl hc _ Tryd.underlying9
theorem text_next (a k : Nat) (ha : a < 4294967296) : (⟨(text a k).toArray⟩ : ByteArray) ++ ⟨#[UInt8.ofNat ((48 + bits .and .u32 ((a : Int) / 2 ^ (31 - k)) 1) % 256).toNat]⟩ = ⟨(text a (k + 1)).toArray⟩ := by
  rw [byte_val a k ha, text_snoc, Int.toNat_natCast]
  apply ByteArray.ext
  simp [ByteArray.data_append]
set_option maxHeartbeats 1000000 in
theorem rText_ok (a : Nat) (ha : a < 4294967296) (n : Int) (h0 : 0 ≤ n) (h1 : n ≤ 32) (w : World) :
    Calls Tryd.prog 26 #[.int .u32 a, .int .i64 n] w fun e w' => e = .returned (.tuple #[.string ⟨(text a n.toNat).toArray⟩, .int .i64 0]) ∧ Below w.heap.size w w' := by
  go_enter Tryd.func26, Tryd.ntmps26
  go_wp2
  go_loopw [6, 7] (fun s i wr => ∃ k : Nat, (k : Int) ≤ n ∧ i = .int .i64 k ∧ s = .string ⟨(text a k).toArray⟩ ∧ Below w.heap.size w wr) (fun _ i _ => 32 - (intOf i).toNat)
  case atStart => exact ⟨0, by omega, rfl, rfl, Below.refl _ _⟩
  case round =>
    obtain ⟨k, hk, rfl, rfl, hb⟩ := hrel
    by_cases hlt : (k : Int) < n
    · have hcv := conv_one wr ((48 + bits .and .u32 ((a : Int) / 2 ^ (31 - k)) 1) % 256)
      have hsz := hb.size
      have hl : (text a k).length ≤ 32 := by rw [text_length]; omega
      go_wp2
      go_roundw
      case rel => exact ⟨k + 1, by omega, by go_num, by rw [text_next a k ha], hb.alloc hsz _⟩
      case measure => simp [intOf]; omega
    · have e : n.toNat = k := by omega
      have E := Sd.mk e
      clear e
      go_wp2
      go_ret2
      exact ⟨ret_str (by rw [E.out]), hb⟩
set_option maxHeartbeats 400000 in
theorem rText_bad (a : Nat) (n : Int) (h : n < 0 ∨ 32 < n) (w : World) :
    Calls Tryd.prog 26 #[.int .u32 a, .int .i64 n] w fun e w' => e = .returned (.tuple #[.string ⟨#[]⟩, .int .i64 1]) ∧ Drew w w' := by
  rcases h with h | h
  · go_enter Tryd.func26, Tryd.ntmps26
    go_wp2
    all_goals (go_ret2; exact ⟨rfl, by repeat (first | exact Drew.refl _ | apply Drew.step)⟩)
  · have h' : 0 ≤ n := by omega
    go_enter Tryd.func26, Tryd.ntmps26
    go_wp2
    all_goals (go_ret2; exact ⟨rfl, by repeat (first | exact Drew.refl _ | apply Drew.step)⟩)
end Go.Proofs.YtmmaciegboodlaaDoor
