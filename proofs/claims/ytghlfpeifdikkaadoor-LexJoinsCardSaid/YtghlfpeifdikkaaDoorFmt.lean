/- The library's digits of a number, whatever its table of powers holds. -/
import Derived.Test.YtghlfpeifdikkaaDoorShelf
import Derived.Test.YtghlfpeifdikkaaDoorLexK
import Derived.Shelf.RegionOpenPlain
import Derived.Lib.Walk
import Derived.Lib.ItoaWalk
import Derived.WalkKit
import Derived.RegionTactic
import Derived.BigCall
import Derived.BigGuard
import Derived.CellFam
namespace Go.Proofs.YtghlfpeifdikkaaDoor
open Go Go.RowKit Go.Sort Go.Lib Go.Shelf

/-- a row's byte at place t is a text's byte -/
def At8 (w : World) (blk t : Nat) (b : UInt8) : Prop := w.cell? ⟨blk, t, none⟩ = some (.int .u8 (b.toNat : Int))
set_option maxHeartbeats 4000000 in
set_option maxRecDepth 100000 in
theorem fb2 (u : Nat) (hu : u < 131072) (w : World) (blk : Nat) (cs : Array Value) (T : TypeId) (hB : Blk w blk cs T) (hc : cs.size = 24) :
    Calls Tryd.prog 67 #[.slice (some ⟨blk, 1, none⟩) 2 23, .int .u64 u] w fun e w' => e = .returned (.tuple #[]) ∧ At8 w' blk 2 (sm (u % 100 * 2 + 1)) ∧ At8 w' blk 1 (sm (u % 100 * 2)) ∧ Only w w' (· = blk) := by
  have mixed := Go.Proofs.Tryd.lays129.mixed
  have cl := hB.lt
  have cf := hB.frozen
  have k1 : w.cell? ⟨blk, 1, none⟩ = some cs[1] := hB.cell (Array.getElem?_eq_getElem (by omega))
  have k2 : w.cell? ⟨blk, 2, none⟩ = some cs[2] := hB.cell (Array.getElem?_eq_getElem (by omega))
  have HB := Sd.mk hB
  clear hB
  go_enter Tryd.func67, Tryd.ntmps67
  go_name_bytes SM hSM
  have eSM : SM = Lib.smalls := by rw [← hSM]; decide +kernel
  subst eSM
  clear hSM
  go_wp2
  go_loop [1, 4] (fun vu vn => vu = .int .u64 u ∧ vn = .int .i64 2) (fun _ _ => 0)
  case atStart => exact ⟨rfl, rfl⟩
  case round =>
    obtain ⟨rfl, rfl⟩ := hrel
    go_wp2
    go_name_slot 16 x0 hx0
    have hxe0 : x0 = ((u % 100 * 2 : Nat) : Int) := by omega
    have hXa0 : ∀ w, (Instr.index 9 (.string Lib.smalls) (.int .u32 (x0 + 1))).run Tryd.prog w = .ok (.int .u8 ((sm (u % 100 * 2 + 1)).toNat : Int)) w := idx_smalls 9 Tryd.underlying9 .u32 _ _ (by omega) (by omega)
    have hXb0 : ∀ w, (Instr.index 9 (.string Lib.smalls) (.int .u32 x0)).run Tryd.prog w = .ok (.int .u8 ((sm (u % 100 * 2)).toNat : Int)) w := idx_smalls 9 Tryd.underlying9 .u32 _ _ (by omega) (by omega)
    have hlo0 : 0 ≤ x0 := by omega
    have hhi0 : x0 ≤ 198 := by omega
    clear hx0 hxe0
    go_region_o
    go_wp2
    go_end0
    have h := ((HB.out.set 2 (.int .u8 ((sm (u % 100 * 2 + 1)).toNat : Int))).set 1 (.int .u8 ((sm (u % 100 * 2)).toNat : Int))).drew
    exact ⟨rfl, h.cell (by simp [hc]), h.cell (by simp [hc]), (((Only.refl w (· = blk)).setCell ⟨blk, 2, none⟩ _ (fun _ => rfl)).setCell ⟨blk, 1, none⟩ _ (fun _ => rfl)).drew⟩
set_option maxHeartbeats 4000000 in
set_option maxRecDepth 100000 in
theorem fb3 (u : Nat) (hu : u < 131072) (w : World) (blk : Nat) (cs : Array Value) (T : TypeId) (hB : Blk w blk cs T) (hc : cs.size = 24) :
    Calls Tryd.prog 67 #[.slice (some ⟨blk, 1, none⟩) 3 23, .int .u64 u] w fun e w' => e = .returned (.tuple #[]) ∧ At8 w' blk 3 (sm (u % 100 * 2 + 1)) ∧ At8 w' blk 2 (sm (u % 100 * 2)) ∧ w'.cell? ⟨blk, 1, none⟩ = some (.int .u8 ((48 + (u : Int) / 100) % 256)) ∧ Only w w' (· = blk) := by
  have mixed := Go.Proofs.Tryd.lays129.mixed
  have cl := hB.lt
  have cf := hB.frozen
  have k1 : w.cell? ⟨blk, 1, none⟩ = some cs[1] := hB.cell (Array.getElem?_eq_getElem (by omega))
  have k2 : w.cell? ⟨blk, 2, none⟩ = some cs[2] := hB.cell (Array.getElem?_eq_getElem (by omega))
  have k3 : w.cell? ⟨blk, 3, none⟩ = some cs[3] := hB.cell (Array.getElem?_eq_getElem (by omega))
  have HB := Sd.mk hB
  clear hB
  go_enter Tryd.func67, Tryd.ntmps67
  go_name_bytes SM hSM
  have eSM : SM = Lib.smalls := by rw [← hSM]; decide +kernel
  subst eSM
  clear hSM
  go_wp2
  go_loop [1, 4] (fun vu vn => vu = .int .u64 u ∧ vn = .int .i64 3) (fun _ _ => 0)
  case atStart => exact ⟨rfl, rfl⟩
  case round =>
    obtain ⟨rfl, rfl⟩ := hrel
    go_wp2
    go_name_slot 16 x0 hx0
    have hxe0 : x0 = ((u % 100 * 2 : Nat) : Int) := by omega
    have hXa0 : ∀ w, (Instr.index 9 (.string Lib.smalls) (.int .u32 (x0 + 1))).run Tryd.prog w = .ok (.int .u8 ((sm (u % 100 * 2 + 1)).toNat : Int)) w := idx_smalls 9 Tryd.underlying9 .u32 _ _ (by omega) (by omega)
    have hXb0 : ∀ w, (Instr.index 9 (.string Lib.smalls) (.int .u32 x0)).run Tryd.prog w = .ok (.int .u8 ((sm (u % 100 * 2)).toNat : Int)) w := idx_smalls 9 Tryd.underlying9 .u32 _ _ (by omega) (by omega)
    have hlo0 : 0 ≤ x0 := by omega
    have hhi0 : x0 ≤ 198 := by omega
    clear hx0 hxe0
    go_region_o
    go_wp2
    go_end0
    have h := (((HB.out.set 3 (.int .u8 ((sm (u % 100 * 2 + 1)).toNat : Int))).set 2 (.int .u8 ((sm (u % 100 * 2)).toNat : Int))).set 1 (.int .u8 ((48 + (u : Int) / 100) % 256))).drew
    exact ⟨rfl, h.cell (by simp [hc]), h.cell (by simp [hc]), h.cell (by simp [hc]), ((((Only.refl w (· = blk)).setCell ⟨blk, 3, none⟩ _ (fun _ => rfl)).setCell ⟨blk, 2, none⟩ _ (fun _ => rfl)).setCell ⟨blk, 1, none⟩ _ (fun _ => rfl)).drew⟩
set_option maxHeartbeats 4000000 in
set_option maxRecDepth 100000 in
theorem fb4 (u : Nat) (hu : u < 131072) (w : World) (blk : Nat) (cs : Array Value) (T : TypeId) (hB : Blk w blk cs T) (hc : cs.size = 24) :
    Calls Tryd.prog 67 #[.slice (some ⟨blk, 1, none⟩) 4 23, .int .u64 u] w fun e w' => e = .returned (.tuple #[]) ∧ At8 w' blk 4 (sm (u % 100 * 2 + 1)) ∧ At8 w' blk 3 (sm (u % 100 * 2)) ∧ At8 w' blk 2 (sm (u / 100 % 100 * 2 + 1)) ∧ At8 w' blk 1 (sm (u / 100 % 100 * 2)) ∧ Only w w' (· = blk) := by
  have mixed := Go.Proofs.Tryd.lays129.mixed
  have cl := hB.lt
  have cf := hB.frozen
  have k1 : w.cell? ⟨blk, 1, none⟩ = some cs[1] := hB.cell (Array.getElem?_eq_getElem (by omega))
  have k2 : w.cell? ⟨blk, 2, none⟩ = some cs[2] := hB.cell (Array.getElem?_eq_getElem (by omega))
  have k3 : w.cell? ⟨blk, 3, none⟩ = some cs[3] := hB.cell (Array.getElem?_eq_getElem (by omega))
  have k4 : w.cell? ⟨blk, 4, none⟩ = some cs[4] := hB.cell (Array.getElem?_eq_getElem (by omega))
  have HB := Sd.mk hB
  clear hB
  go_enter Tryd.func67, Tryd.ntmps67
  go_name_bytes SM hSM
  have eSM : SM = Lib.smalls := by rw [← hSM]; decide +kernel
  subst eSM
  clear hSM
  go_wp2
  go_loop [1, 4] (fun vu vn => vu = .int .u64 u ∧ vn = .int .i64 4) (fun _ _ => 0)
  case atStart => exact ⟨rfl, rfl⟩
  case round =>
    obtain ⟨rfl, rfl⟩ := hrel
    go_wp2
    go_name_slot 15 x0 hx0
    have hxe0 : x0 = ((u % 100 * 2 : Nat) : Int) := by omega
    have hXa0 : ∀ w, (Instr.index 9 (.string Lib.smalls) (.int .u32 (x0 + 1))).run Tryd.prog w = .ok (.int .u8 ((sm (u % 100 * 2 + 1)).toNat : Int)) w := idx_smalls 9 Tryd.underlying9 .u32 _ _ (by omega) (by omega)
    have hXb0 : ∀ w, (Instr.index 9 (.string Lib.smalls) (.int .u32 x0)).run Tryd.prog w = .ok (.int .u8 ((sm (u % 100 * 2)).toNat : Int)) w := idx_smalls 9 Tryd.underlying9 .u32 _ _ (by omega) (by omega)
    have hlo0 : 0 ≤ x0 := by omega
    have hhi0 : x0 ≤ 198 := by omega
    clear hx0 hxe0
    go_region_o
    go_wp2
    have h1 := ((HB.out.set 4 (.int .u8 ((sm (u % 100 * 2 + 1)).toNat : Int))).set 3 (.int .u8 ((sm (u % 100 * 2)).toNat : Int))).drew
    have o1 : Only w ((w.setCell ⟨blk, 4, none⟩ (.int .u8 ((sm (u % 100 * 2 + 1)).toNat : Int))).setCell ⟨blk, 3, none⟩ (.int .u8 ((sm (u % 100 * 2)).toNat : Int))).drew (· = blk) := (((Only.refl w (· = blk)).setCell ⟨blk, 4, none⟩ _ (fun _ => rfl)).setCell ⟨blk, 3, none⟩ _ (fun _ => rfl)).drew
    generalize ((w.setCell ⟨blk, 4, none⟩ (.int .u8 ((sm (u % 100 * 2 + 1)).toNat : Int))).setCell ⟨blk, 3, none⟩ (.int .u8 ((sm (u % 100 * 2)).toNat : Int))).drew = w1 at h1 o1 ⊢
    have HB1 := Sd.mk h1
    have HO1 := Sd.mk o1
    clear k1 k2 k3 k4 cf cl hXa0 hXb0
    have cl := h1.lt
    have cf := h1.frozen
    have k1 : w1.cell? ⟨blk, 1, none⟩ = some cs[1] := h1.cell (by simp [hc])
    have k2 : w1.cell? ⟨blk, 2, none⟩ = some cs[2] := h1.cell (by simp [hc])
    clear h1 o1
    go_name_slot 14 x1 hx1
    have hxe1 : x1 = ((u / 100 % 100 * 2 : Nat) : Int) := by omega
    have hXa1 : ∀ w, (Instr.index 9 (.string Lib.smalls) (.int .u32 (x1 + 1))).run Tryd.prog w = .ok (.int .u8 ((sm (u / 100 % 100 * 2 + 1)).toNat : Int)) w := idx_smalls 9 Tryd.underlying9 .u32 _ _ (by omega) (by omega)
    have hXb1 : ∀ w, (Instr.index 9 (.string Lib.smalls) (.int .u32 x1)).run Tryd.prog w = .ok (.int .u8 ((sm (u / 100 % 100 * 2)).toNat : Int)) w := idx_smalls 9 Tryd.underlying9 .u32 _ _ (by omega) (by omega)
    have hlo1 : 0 ≤ x1 := by omega
    have hhi1 : x1 ≤ 198 := by omega
    clear hx1 hxe1
    go_region_o
    go_wp2
    go_end0
    have h := ((HB1.out.set 2 (.int .u8 ((sm (u / 100 % 100 * 2 + 1)).toNat : Int))).set 1 (.int .u8 ((sm (u / 100 % 100 * 2)).toNat : Int))).drew
    exact ⟨rfl, h.cell (by simp [hc]), h.cell (by simp [hc]), h.cell (by simp [hc]), h.cell (by simp [hc]), (((HO1.out.setCell ⟨blk, 2, none⟩ _ (fun _ => rfl)).setCell ⟨blk, 1, none⟩ _ (fun _ => rfl))).drew⟩
/-- the library's table of powers: twenty numbers, whichever -/
def TabAny (w : World) (z : Nat → Int) : Prop := ∀ k, k < 20 → w.cell? ⟨1, k, none⟩ = some (.int .u64 (z k))
/-- how many digits the library counts, by such a table -/
def ndAny (z : Nat → Int) (u : Nat) : Nat := Lib.l10 (Lib.bitLen u) + (if z (Lib.l10 (Lib.bitLen u)) ≤ (u : Int) then 1 else 0)
set_option maxHeartbeats 2000000 in
theorem numDigits_any (z : Nat → Int) (u : Nat) (h1 : 1 ≤ u) (h2 : u < 131072) (w : World) (hz : TabAny w z) :
    Calls Tryd.prog 66 #[.int .u64 u] w fun e w' => e = .returned (.int .i64 (ndAny z u)) ∧ w' = w := by
  have mixed := Go.Proofs.Tryd.lays129.mixed
  obtain ⟨_, h19⟩ := Lib.numDigits_eq u h1 (by omega)
  have hL : Lib.bitLen u ≤ 64 := Lib.bitLen_le u 64 (Nat.le_refl _) (by omega)
  have hcell := hz (Lib.l10 (Lib.bitLen u)) (by omega)
  have hto : ((u : Int)).toNat = u := by omega
  unfold ndAny
  generalize hq : Lib.l10 (Lib.bitLen u) = q at h19 hcell ⊢
  have h20 : q < 20 := by omega
  clear hz
  go_enter Tryd.func66, Tryd.ntmps66
  go_wp2_with (first
    | (go_at_call 70; refine (Go.Proofs.Tryd.bits_Len64 _ _ (by omega) (by omega)).mono ?_; rintro e w' ⟨rfl, rfl⟩)
    | (go_at_call 69; refine (Go.Proofs.Tryd.internal_strconv_log10Pow2 _ (by first | exact hL | (rw [hto]; exact hL)) _).mono ?_; rintro e w' ⟨rfl, rfl⟩)
    | (go_at_call 71; refine (Go.Proofs.Tryd.internal_strconv_bool2_int _ _).mono ?_; rintro e w' ⟨rfl, rfl⟩))
  all_goals go_ret
  all_goals exact ⟨by simp, rfl⟩
theorem below_grow2 (w : World) (k : Nat) (os : Array Obj) : Below w.heap.size w (grow (w.drewN k) os) := by
  refine ⟨rfl, rfl, rfl, by simp [grow], fun b hb => ?_⟩
  simp only [grow, World.drewN]
  rw [Array.getElem?_append_left hb]
theorem cells2 {w' : World} {B : Nat} {b1 b2 : UInt8} (a1 : At8 w' B 1 b1) (a2 : At8 w' B 2 b2) : ∀ i (hi : i < [b1, b2].length), w'.cell? ⟨B, 1 + i, none⟩ = some (.int .u8 (([b1, b2][i]).toNat : Int)) := by
  intro i hi
  match i, hi with
  | 0, _ => exact a1
  | 1, _ => exact a2
theorem cells3 {w' : World} {B : Nat} {b1 b2 b3 : UInt8} (a1 : At8 w' B 1 b1) (a2 : At8 w' B 2 b2) (a3 : At8 w' B 3 b3) : ∀ i (hi : i < [b1, b2, b3].length), w'.cell? ⟨B, 1 + i, none⟩ = some (.int .u8 (([b1, b2, b3][i]).toNat : Int)) := by
  intro i hi
  match i, hi with
  | 0, _ => exact a1
  | 1, _ => exact a2
  | 2, _ => exact a3
theorem cells4 {w' : World} {B : Nat} {b1 b2 b3 b4 : UInt8} (a1 : At8 w' B 1 b1) (a2 : At8 w' B 2 b2) (a3 : At8 w' B 3 b3) (a4 : At8 w' B 4 b4) : ∀ i (hi : i < [b1, b2, b3, b4].length), w'.cell? ⟨B, 1 + i, none⟩ = some (.int .u8 (([b1, b2, b3, b4][i]).toNat : Int)) := by
  intro i hi
  match i, hi with
  | 0, _ => exact a1
  | 1, _ => exact a2
  | 2, _ => exact a3
  | 3, _ => exact a4
/-- formatBase10 at a new row: bytes that hang on the number and the row's length alone -/
theorem fb_any (nd u : Nat) (h2 : 2 ≤ nd) (h6 : nd ≤ 6) (hu : u < 131072) (hok : u < 10 ^ nd ∨ nd ≤ 4) : ∃ bs : List UInt8, bs.length = nd ∧ ∀ (w : World) (T : TypeId), Calls Tryd.prog 67 #[.slice (some ⟨w.heap.size, 1, none⟩) nd 23, .int .u64 u] (w.alloc (.cells Lib.zeros24 T)) fun e w' =>
    e = .returned (.tuple #[]) ∧ (∀ i (hi : i < bs.length), w'.cell? ⟨w.heap.size, 1 + i, none⟩ = some (.int .u8 ((bs[i]).toNat : Int))) ∧ Below w.heap.size w w' := by
  by_cases h : u < 10 ^ nd
  · refine ⟨(List.range nd).map (fun t => dg u (nd - 1 - t)), by simp, fun w T => ?_⟩
    have hH0 := Lib.holds_zero w T nd (by omega)
    have hf := Go.Proofs.Tryd.internal_strconv_formatBase10 w.heap.size 1 23 u (Array.replicate nd 0) (w.alloc (.cells Lib.zeros24 T)) hH0 (by rw [Array.size_replicate]; exact h) (by omega) (by rw [Array.size_replicate]; omega)
    rw [Array.size_replicate] at hf
    refine hf.mono ?_
    rintro e w' ⟨rfl, k, v', dk, rfl, hF⟩
    refine ⟨rfl, fun i hi => ?_, ?_⟩
    · have hi' : i < nd := by simpa using hi
      rw [World.cell?_drewN, cell?_putRow _ _ _ _ _ dk hH0 (by rw [hF.size, Array.size_replicate]) i (by rw [hF.size]; exact hi'), hF.done i (Nat.zero_le _) hi']
      simp
    · obtain ⟨os, eo⟩ := Lib.fin_pos w (.cells Lib.zeros24 T) dk k
      rw [eo]; exact below_grow2 w k os
  · have hn : nd = 2 ∨ nd = 3 ∨ nd = 4 := by omega
    have ob : ∀ {w w' : World} {T : TypeId}, Only (w.alloc (.cells Lib.zeros24 T)) w' (· = w.heap.size) → Below w.heap.size w w' := fun ho => ((Below.refl _ _).alloc (Nat.le_refl _) _).trans (ho.below _ (by simp) (fun k hk => by omega))
    rcases hn with rfl | rfl | rfl
    · refine ⟨[sm (u % 100 * 2), sm (u % 100 * 2 + 1)], rfl, fun w T => (fb2 u hu _ _ _ T (Blk.new w Lib.zeros24 T) rfl).mono ?_⟩
      rintro e w' ⟨rfl, a2, a1, ho⟩
      exact ⟨rfl, cells2 a1 a2, ob ho⟩
    · refine ⟨[UInt8.ofNat ((48 + u / 100) % 256), sm (u % 100 * 2), sm (u % 100 * 2 + 1)], rfl, fun w T => (fb3 u hu _ _ _ T (Blk.new w Lib.zeros24 T) rfl).mono ?_⟩
      rintro e w' ⟨rfl, a3, a2, a1, ho⟩
      refine ⟨rfl, cells3 ?_ a2 a3, ob ho⟩
      unfold At8; rw [a1]; simp
    · refine ⟨[sm (u / 100 % 100 * 2), sm (u / 100 % 100 * 2 + 1), sm (u % 100 * 2), sm (u % 100 * 2 + 1)], rfl, fun w T => (fb4 u hu _ _ _ T (Blk.new w Lib.zeros24 T) rfl).mono ?_⟩
      rintro e w' ⟨rfl, a4, a3, a2, a1, ho⟩
      exact ⟨rfl, cells4 a1 a2 a3 a4, ob ho⟩
end Go.Proofs.YtghlfpeifdikkaaDoor
