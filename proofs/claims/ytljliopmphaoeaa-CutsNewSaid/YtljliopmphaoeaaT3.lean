/- Lists of rules of one's own; Rules of package table. -/
import Derived.Test.YtljliopmphaoeaaT2
import Derived.Test.YtljliopmphaoeaaCopyW
import Derived.Laws.MakeOwn
import Derived.Laws.AppendOwn
import Derived.Maps.AppendAt
namespace Go.Proofs.Ytljliopmphaoeaa
open Go Go.RowKit Go.Proofs.Ytljliopmphaoeaa.Q

theorem add0 (g j : Nat) : (⟨g, 0, none⟩ : Addr).add j = ⟨g, 0 + j, none⟩ := by unfold Addr.add; split <;> simp_all
def rulC (r : Rul) : List Value := [.int .i64 r.id, .int .u32 r.src.a, .int .i64 r.src.n, .int .u32 r.dst.a, .int .i64 r.dst.n, .int .u16 r.sp.lo, .int .u16 r.sp.hi, .int .u16 r.dp.lo, .int .u16 r.dp.hi, .int .u8 r.pr.v, .int .u8 r.pr.c, .int .i64 r.act]
def rulsC (rs : List Rul) : List Value := rs.flatMap rulC
theorem rulC_len (r : Rul) : (rulC r).length = 12 := rfl
theorem rulsC_len (rs : List Rul) : (rulsC rs).length = rs.length * 12 := by
  induction rs with
  | nil => rfl
  | cons r rs ih =>
    have : rulsC (r :: rs) = rulC r ++ rulsC rs := rfl
    rw [this, List.length_append, rulC_len, ih, List.length_cons]; omega
theorem rulsC_app (a b : List Rul) : rulsC (a ++ b) = rulsC a ++ rulsC b := by simp [rulsC]
theorem rulsC_one (r : Rul) : rulsC [r] = rulC r := by simp [rulsC]
theorem rulsC_get (rs : List Rul) (k : Nat) (hk : k < rs.length) (i : Nat) (u : Value) (hu : (rulC rs[k])[i]? = some u) : (rulsC rs)[k * 12 + i]? = some u := by
  have hi : i < 12 := by have := (List.getElem?_eq_some_iff.1 hu).1; rwa [rulC_len] at this
  have hs : rs = rs.take k ++ (rs[k] :: rs.drop (k + 1)) := by rw [List.getElem_cons_drop hk, List.take_append_drop]
  have h2 : rulsC rs = rulsC (rs.take k) ++ (rulC rs[k] ++ rulsC (rs.drop (k + 1))) := by
    conv => lhs; rw [hs]
    rw [rulsC_app]; rfl
  have hl : (rulsC (rs.take k)).length = k * 12 := by rw [rulsC_len, List.length_take, Nat.min_eq_left (by omega)]
  rw [h2, List.getElem?_append_right (by omega), hl, show k * 12 + i - k * 12 = i from by omega, List.getElem?_append_left (by rw [rulC_len]; exact hi)]
  exact hu
theorem ruls_one (rs : List Rul) : ∀ u ∈ rulsC rs, u.oneCell' = true := by
  intro u hu
  unfold rulsC at hu
  rw [List.mem_flatMap] at hu
  obtain ⟨r, _, hr⟩ := hu
  unfold rulC at hr
  simp only [List.mem_cons, List.not_mem_nil, or_false] at hr
  rcases hr with h | h | h | h | h | h | h | h | h | h | h | h <;> rw [h] <;> rfl
/-- a slice of one's own that reads as these rules -/
def OwnR (W : World) (base : Nat) (v : Value) (rs : List Rul) : Prop := W.ownsRow base 60 12 v rs.length (rulsC rs)
theorem infoRule : (Try.prog.info? 60).map (fun i => (i.zero, i.size, i.bytes)) = some (some (.agg #[.int .i64 0, .int .u32 0, .int .i64 0, .int .u32 0, .int .i64 0, .int .u16 0, .int .u16 0, .int .u16 0, .int .u16 0, .int .u8 0, .int .u8 0, .int .i64 0]), 12, 64) := by kernel_rfl
theorem sizeRule : (Try.prog.info? 60).map (·.size) = some 12 := by kernel_rfl
theorem OwnR.slice {W : World} {base : Nat} {v : Value} {rs : List Rul} (h : OwnR W base v rs) : ∃ A cap, v = .slice A rs.length cap := by
  rcases h.2 with ⟨h1, h2⟩ | ⟨g, cap, cur, h1, _⟩
  · rw [h2]; exact ⟨none, 0, h1⟩
  · exact ⟨_, cap, h1⟩
theorem OwnR.ruls {W : World} {base : Nat} {A : Option Addr} {cap : Nat} {rs : List Rul} (h : OwnR W base (.slice A rs.length cap) rs) : RulsAt W A rs :=
  ⟨fun k hk => by
    rcases h.2 with ⟨h1, h2⟩ | ⟨g, c, cur, h1, h2, h3, _⟩
    · omega
    · have hA : A = some ⟨g, 0, none⟩ := by injection h1
      refine ⟨g, 0, hA, (Array.getElem?_eq_some_iff.1 h3).1, fun i u hu => ?_⟩
      have := World.ownsRow.cells h (g := g) (by rw [hA]; rfl) (k * 12 + i) u (rulsC_get rs k hk i u (by simpa [rulC] using hu))
      rw [add0] at this
      rw [Nat.zero_add]
      simpa using this⟩
/-- the whole row, at the head of its block -/
theorem OwnR.row {W : World} {base : Nat} {v : Value} {rs : List Rul} (h : OwnR W base v rs) (hne : 0 < rs.length) : ∃ g cap, v = .slice (some ⟨g, 0, none⟩) rs.length cap ∧ base ≤ g ∧ ∀ j u, (rulsC rs)[j]? = some u → W.cell? ((⟨g, 0, none⟩ : Addr).add j) = some u := by
  rcases h.2 with ⟨h1, h2⟩ | ⟨g, c, cur, h1, h2, h3, _⟩
  · omega
  · exact ⟨g, c, h1, h2, World.ownsRow.cells h (by rw [h1]; rfl)⟩
theorem made_len (z : Array Value) (n : Nat) : (madeCells z n).toList.length = n := by rw [Array.length_toList, size_madeCells]
/-- what a copy over a new row of the same length leaves -/
theorem splice_whole {α : Type} (L cs : List α) (h : L.length = cs.length) : splice L 0 cs = cs := by
  unfold splice
  rw [Nat.zero_add, List.drop_of_length_le (by omega)]; simp
set_option maxHeartbeats 1000000 in
set_option maxRecDepth 100000 in
theorem tabRules_any (B : Nat) (c : Cfg) (rs : List Rul) (base : Nat) (v : Value) (w : World) (hl : rs.length ≤ 100000) (hT : TabAt w B c v) (hO : OwnR w base v rs) :
    Calls Try.prog 44 #[.pointer (some ⟨B, 0, none⟩)] w fun e w' => ∃ g, e = .returned (.slice (some ⟨g, 0, none⟩) rs.length rs.length) ∧ w.heap.size ≤ g ∧ OwnR w' w.heap.size (.slice (some ⟨g, 0, none⟩) rs.length rs.length) rs ∧ Below w.heap.size w w' := by
  obtain ⟨A, cap, rfl⟩ := hO.slice
  obtain ⟨i0, hi, hz0, hz1, hz2⟩ := info_parts infoRule
  have hmk : ∀ W : World, (Instr.makeSlice 46 (.int .i64 (rs.length : Int)) (.int .i64 (rs.length : Int))).run Try.prog W = .ok (.slice (some ⟨W.heap.size, 0, none⟩) rs.length rs.length) (W.alloc (.cells (madeCells (Value.agg #[.int .i64 0, .int .u32 0, .int .i64 0, .int .u32 0, .int .i64 0, .int .u16 0, .int .u16 0, .int .u16 0, .int .u16 0, .int .u8 0, .int .u8 0, .int .i64 0]).cells (rs.length * 12)) 60)) := fun W => by
    have := run_make (P := Try.prog) W 46 60 i0 _ Try.underlying46 hi hz0 .i64 .i64 (rs.length : Int) (rs.length : Int) (by omega) (by omega) (by rw [hz2]; omega) (by omega)
    rw [this, hz1]
    simp
  have c7 := hT.cell (i := 7) rfl
  have cl := hT.lt
  have HO := Sd.mk hO
  obtain ⟨Z, hZ⟩ : ∃ Z, madeCells (Value.agg #[.int .i64 0, .int .u32 0, .int .i64 0, .int .u32 0, .int .i64 0, .int .u16 0, .int .u16 0, .int .u16 0, .int .u16 0, .int .u8 0, .int .u8 0, .int .i64 0]).cells (rs.length * 12) = Z := ⟨_, rfl⟩
  have hZl : Z.size = rs.length * 12 := by rw [← hZ, size_madeCells]
  rw [hZ] at hmk
  have HZL := Sd.mk hZl
  have hfin : ∀ w1, w1.heap[w.heap.size]? = some (.cells (rulsC rs).toArray 60 (0, 0)) → OwnR w1 w.heap.size (.slice (some ⟨w.heap.size, 0, none⟩) rs.length rs.length) rs := fun w1 h =>
    ⟨rulsC_len rs, .inr ⟨w.heap.size, rs.length, _, rfl, Nat.le_refl _, h, Nat.le_refl _, by unfold maxLen; omega, by rw [List.size_toArray, rulsC_len], by rw [List.take_of_length_le (by rw [rulsC_len]; exact Nat.le_refl _)]⟩⟩
  have HF := Sd.mk hfin
  clear hZl hZ hi hz0 hz1 hz2 hfin hO hT
  go_enter Try.func44, Try.ntmps44
  go_upto_region 4 with fail
  have HBN := Sd.mk (below_alloc (Below.refl w.heap.size w) (.cells Z 60))
  go_wp2_with (with_reducible refine wpList_copy_wide rfl (.tmp 12) (.tmp 16) 46 46 rfl 12 60 Try.underlying46 sizeRule (some ⟨w.heap.size, 0, none⟩) A rs.length rs.length rs.length cap rfl rfl w.heap.size 0 Z.toList 60 ?c1 (rulsC rs) ?c2 ?c3 ?c4 (ruls_one rs) ?c5)
  case c1 =>
    have := Blk.new w Z 60
    unfold Blk at this
    simpa using this
  case c2 => rw [rulsC_len]; show _ = Nat.min _ _ * 12; rw [show Nat.min rs.length rs.length = rs.length from Nat.min_self _]
  case c3 =>
    intro hne
    obtain ⟨g, cp, hv, _, hc⟩ := HO.out.row hne
    injection hv with h1
    exact ⟨_, h1, fun j u hu => (HBN.out.cell (World.block_lt_of_cell? w _ (hc j u hu))).trans (hc j u hu)⟩
  case c4 => rw [rulsC_len]; have e : Z.toList.length = rs.length * 12 := Array.length_toList.trans HZL.out; omega
  case c5 =>
    intro w1 hg1 hw1
    have hb1 : Below w.heap.size w w1 := by
      rcases hw1 with rfl | rfl
      · exact HBN.out
      · exact below_setRow HBN.out (Nat.le_refl _) _
    rw [splice_whole _ _ (by rw [rulsC_len]; exact Array.length_toList.trans HZL.out)] at hg1
    have HG := Sd.mk hg1
    have HB1 := Sd.mk hb1
    clear hg1 hb1 hw1
    go_wp2
    go_ret
    exact ⟨_, rfl, Nat.le_refl _, HF.out w1 HG.out, HB1.out⟩
end Go.Proofs.Ytljliopmphaoeaa
