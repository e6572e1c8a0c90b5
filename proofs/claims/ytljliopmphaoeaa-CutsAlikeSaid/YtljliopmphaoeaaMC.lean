/- copy of slices whose elements have several cells. Lists of rules of one's own; Rules of package table. -/
import Derived.Laws.CopyOwn
import Derived.Test.YtljliopmphaoeaaT2
import Derived.Laws.MakeOwn
import Derived.Laws.AppendOwn
import Derived.Maps.AppendAt
namespace Go.Proofs.Ytljliopmphaoeaa
open Go Go.RowKit

section
variable {P : Program}
theorem run_copy_wide (w : World) (size : Nat) (dT sT ty elem : TypeId) (g o dLen dCap : Nat) (a : Addr) (sLen sCap : Nat) (cur : Array Value) (t : TypeId) (cs : List Value)
    (hu : P.underlying dT = some (.slice elem)) (hs : (P.info? elem).map (·.size) = some size)
    (hg : w.heap[g]? = some (.cells cur t (0, 0))) (hn : cs.length = Nat.min sLen dLen * size)
    (hsrc : ∀ j v, cs[j]? = some v → w.cell? (a.add j) = some v) (hfit : o + cs.length ≤ cur.size) (h1 : ∀ v ∈ cs, v.oneCell' = true) :
    (Builtin.copy_ #[dT, sT] ty #[.slice (some ⟨g, o, none⟩) dLen dCap, .slice (some a) sLen sCap]).run P w =
      .ok (goInt (Nat.min sLen dLen)) (w.setRow g (cur.toList.take o ++ cs ++ cur.toList.drop (o + cs.length)).toArray) := by
  have hl := run_loadCells_list (P := P) w a cs hsrc
  have hst := run_storeCells_at P g o t cs 0 cur w hg (by simpa using hfit) h1
  rw [hn] at hl
  cases hq : P.info? elem with
  | none => simp [hq] at hs
  | some i =>
    have hi : i.size = size := by simpa [hq] using hs
    simp [Builtin.copy_, run_underlying hu, Builtin.lenOf, Builtin.firstCells, sizeOf, typeInfo, hq, hi, hl, hst]
theorem run_copy_zero (w : World) (dT sT ty elem : TypeId) (dp sp : Option Addr) (dLen dCap sLen sCap : Nat)
    (hu : P.underlying dT = some (.slice elem)) (hs : ((P.info? elem).map (·.size)).isSome = true) (hn : Nat.min sLen dLen = 0) :
    (Builtin.copy_ #[dT, sT] ty #[.slice dp dLen dCap, .slice sp sLen sCap]).run P w = .ok (goInt 0) w := by
  cases hq : P.info? elem with
  | none => simp [hq] at hs
  | some i =>
    have hl0 : ∀ a, (loadCells a 0).run P w = .ok #[] w := fun a => run_loadCells_list (P := P) w a [] (by simp)
    cases dp <;> cases sp <;> simp [Builtin.copy_, run_underlying hu, Builtin.lenOf, Builtin.firstCells, sizeOf, typeInfo, hq, hn, hl0, storeCells]
theorem copy_step {w : World} {size : Nat} {dT sT ty elem : TypeId} (hu : P.underlying dT = some (.slice elem)) (hsz : (P.info? elem).map (·.size) = some size)
    (dp sp : Option Addr) (dLen dCap sLen sCap : Nat) (g off : Nat) (cur : List Value) (t : TypeId) (hg : w.heap[g]? = some (.cells cur.toArray t (0, 0))) (cs : List Value) (hn : cs.length = Nat.min sLen dLen * size)
    (hpos : 0 < Nat.min sLen dLen → dp = some ⟨g, off, none⟩ ∧ ∃ ad, sp = some ad ∧ ∀ j v, cs[j]? = some v → w.cell? (ad.add j) = some v)
    (hfit : off + cs.length ≤ cur.length) (h1 : ∀ v ∈ cs, v.oneCell' = true) :
    ∃ w', (Builtin.copy_ #[dT, sT] ty #[.slice dp dLen dCap, .slice sp sLen sCap]).run P w = .ok (goInt (Nat.min sLen dLen)) w' ∧ w'.heap[g]? = some (.cells (splice cur off cs).toArray t (0, 0)) ∧
      (w' = w ∨ w' = w.setRow g (splice cur off cs).toArray) := by
  by_cases h0 : Nat.min sLen dLen = 0
  · obtain rfl : cs = [] := List.eq_nil_of_length_eq_zero (by rw [hn, h0, Nat.zero_mul])
    refine ⟨w, ?_, by simpa [splice] using hg, .inl rfl⟩
    rw [h0]
    exact run_copy_zero w dT sT ty elem dp sp dLen dCap sLen sCap hu (by rw [hsz]; rfl) h0
  · obtain ⟨rfl, ad, rfl, hsrc⟩ := hpos (by omega)
    have hr := run_copy_wide (P := P) w size dT sT ty elem g off dLen dCap ad sLen sCap cur.toArray t cs hu hsz hg hn hsrc (by simpa using hfit) h1
    have e : (cur.toArray.toList.take off ++ cs ++ cur.toArray.toList.drop (off + cs.length)) = splice cur off cs := by simp [splice]
    rw [e] at hr
    exact ⟨_, hr, setRow_heap w g _ _ t _ hg, .inr rfl⟩
/-- copy, as a step of a region that draws its order -/
theorem step_copy_wide {ops : Array Oper} {o : Oper} {a : Act} {w : World} {K : Act → World → Prop} {Q : Exit → Act → World → Prop} {E : Prop} (hgd : o.guard = none) (d s : Operand) (dT sT : TypeId)
    (ho : o.op = .call { callee := .builtin .copy, args := #[d, s], argTypes := #[dT, sT] }) (size : Nat) (elem : TypeId) (hu : P.underlying dT = some (.slice elem)) (hsz : (P.info? elem).map (·.size) = some size)
    (dp sp : Option Addr) (dLen dCap sLen sCap : Nat) (hd : a.eval d = .slice dp dLen dCap) (hs : a.eval s = .slice sp sLen sCap)
    (g off : Nat) (cur : List Value) (t : TypeId) (hg : w.heap[g]? = some (.cells cur.toArray t (0, 0))) (cs : List Value) (hn : cs.length = Nat.min sLen dLen * size)
    (hpos : 0 < Nat.min sLen dLen → dp = some ⟨g, off, none⟩ ∧ ∃ ad, sp = some ad ∧ ∀ j v, cs[j]? = some v → w.cell? (ad.add j) = some v)
    (hfit : off + cs.length ≤ cur.length) (h1 : ∀ v ∈ cs, v.oneCell' = true)
    (h : ∀ w', w'.heap[g]? = some (.cells (splice cur off cs).toArray t (0, 0)) → (w' = w ∨ w' = w.setRow g (splice cur off cs).toArray) → K (a.put o.dst (goInt (Nat.min sLen dLen))) w') :
    if Region.wanted o (yielded ops a.tmps) = true then Oper.wp P o a w K Q else E := by
  have hw : Region.wanted o (yielded ops a.tmps) = true := by simp [Region.wanted, hgd]
  rw [if_pos hw]
  obtain ⟨w', hr, h2, h3⟩ := copy_step (P := P) (ty := o.type) (sT := sT) hu hsz dp sp dLen dCap sLen sCap g off cur t hg cs hn hpos hfit h1
  unfold Oper.wp
  simp [execOp, ho, resolve, invoke, builtin, hd, hs, hr, Result.andThen]
  exact h w' h2 h3
/-- and as an operation of a region that does not -/
theorem wpList_copy_wide {ops : Array Oper} {rest : List Oper} {o : Oper} {a : Act} {w : World} {Q : Exit → Act → World → Prop} (hgd : o.guard = none) (d s : Operand) (dT sT : TypeId)
    (ho : o.op = .call { callee := .builtin .copy, args := #[d, s], argTypes := #[dT, sT] }) (size : Nat) (elem : TypeId) (hu : P.underlying dT = some (.slice elem)) (hsz : (P.info? elem).map (·.size) = some size)
    (dp sp : Option Addr) (dLen dCap sLen sCap : Nat) (hd : a.eval d = .slice dp dLen dCap) (hs : a.eval s = .slice sp sLen sCap)
    (g off : Nat) (cur : List Value) (t : TypeId) (hg : w.heap[g]? = some (.cells cur.toArray t (0, 0))) (cs : List Value) (hn : cs.length = Nat.min sLen dLen * size)
    (hpos : 0 < Nat.min sLen dLen → dp = some ⟨g, off, none⟩ ∧ ∃ ad, sp = some ad ∧ ∀ j v, cs[j]? = some v → w.cell? (ad.add j) = some v)
    (hfit : off + cs.length ≤ cur.length) (h1 : ∀ v ∈ cs, v.oneCell' = true)
    (h : ∀ w', w'.heap[g]? = some (.cells (splice cur off cs).toArray t (0, 0)) → (w' = w ∨ w' = w.setRow g (splice cur off cs).toArray) → wpList P ops Q rest (a.put o.dst (goInt (Nat.min sLen dLen))) w') :
    wpList P ops Q (o :: rest) a w := by
  refine wpList_plain hgd fun K hK => ?_
  obtain ⟨w', hr, h2, h3⟩ := copy_step (P := P) (ty := o.type) (sT := sT) hu hsz dp sp dLen dCap sLen sCap g off cur t hg cs hn hpos hfit h1
  unfold Oper.wp
  simp [execOp, ho, resolve, invoke, builtin, hd, hs, hr, Result.andThen]
  exact hK _ _ (h w' h2 h3)
end
end Go.Proofs.Ytljliopmphaoeaa

namespace Go.Proofs.Ytljliopmphaoeaa
open Go Go.RowKit Go.Proofs.Ytljliopmphaoeaa.Q

theorem add0 (g j : Nat) : (⟨g, 0, none⟩ : Addr).add j = ⟨g, 0 + j, none⟩ := by unfold Addr.add; split <;> simp_all
def rulC (r : Rul) : List Value := [.int .i64 r.id, .int .u32 r.src.a, .int .i64 r.src.n, .int .u32 r.dst.a, .int .i64 r.dst.n, .int .u16 r.sp.lo, .int .u16 r.sp.hi, .int .u16 r.dp.lo, .int .u16 r.dp.hi, .int .u8 r.pr.v, .int .u8 r.pr.c, .int .i64 r.act]
def rulsC (rs : List Rul) : List Value := rs.flatMap rulC
theorem rulC_len (r : Rul) : (rulC r).length = 12 := rfl
theorem rulsC_len (rs : List Rul) : (rulsC rs).length = rs.length * 12 := by
  induction rs with
  | nil => rfl
  | cons r rs ih =>
    have : rulsC (r :: rs) = rulC r ++ rulsC rs := rfl
    rw [this, List.length_append, rulC_len, ih, List.length_cons]; omega
theorem rulsC_app (a b : List Rul) : rulsC (a ++ b) = rulsC a ++ rulsC b := by simp [rulsC]
theorem rulsC_one (r : Rul) : rulsC [r] = rulC r := by simp [rulsC]
theorem rulsC_get (rs : List Rul) (k : Nat) (hk : k < rs.length) (i : Nat) (u : Value) (hu : (rulC rs[k])[i]? = some u) : (rulsC rs)[k * 12 + i]? = some u := by
  have hi : i < 12 := by have := (List.getElem?_eq_some_iff.1 hu).1; rwa [rulC_len] at this
  have hs : rs = rs.take k ++ (rs[k] :: rs.drop (k + 1)) := by rw [List.getElem_cons_drop hk, List.take_append_drop]
  have h2 : rulsC rs = rulsC (rs.take k) ++ (rulC rs[k] ++ rulsC (rs.drop (k + 1))) := by
    conv => lhs; rw [hs]
    rw [rulsC_app]; rfl
  have hl : (rulsC (rs.take k)).length = k * 12 := by rw [rulsC_len, List.length_take, Nat.min_eq_left (by omega)]
  rw [h2, List.getElem?_append_right (by omega), hl, show k * 12 + i - k * 12 = i from by omega, List.getElem?_append_left (by rw [rulC_len]; exact hi)]
  exact hu
theorem ruls_one (rs : List Rul) : ∀ u ∈ rulsC rs, u.oneCell' = true := by
  intro u hu
  unfold rulsC at hu
  rw [List.mem_flatMap] at hu
  obtain ⟨r, _, hr⟩ := hu
  unfold rulC at hr
  simp only [List.mem_cons, List.not_mem_nil, or_false] at hr
  rcases hr with h | h | h | h | h | h | h | h | h | h | h | h <;> rw [h] <;> rfl
/-- a slice of one's own that reads as these rules -/
def OwnR (W : World) (base : Nat) (v : Value) (rs : List Rul) : Prop := W.ownsRow base 60 12 v rs.length (rulsC rs)
theorem infoRule : (Try.prog.info? 60).map (fun i => (i.zero, i.size, i.bytes)) = some (some (.agg #[.int .i64 0, .int .u32 0, .int .i64 0, .int .u32 0, .int .i64 0, .int .u16 0, .int .u16 0, .int .u16 0, .int .u16 0, .int .u8 0, .int .u8 0, .int .i64 0]), 12, 64) := by kernel_rfl
theorem sizeRule : (Try.prog.info? 60).map (·.size) = some 12 := by kernel_rfl
theorem OwnR.slice {W : World} {base : Nat} {v : Value} {rs : List Rul} (h : OwnR W base v rs) : ∃ A cap, v = .slice A rs.length cap := by
  rcases h.2 with ⟨h1, h2⟩ | ⟨g, cap, cur, h1, _⟩
  · rw [h2]; exact ⟨none, 0, h1⟩
  · exact ⟨_, cap, h1⟩
theorem OwnR.ruls {W : World} {base : Nat} {A : Option Addr} {cap : Nat} {rs : List Rul} (h : OwnR W base (.slice A rs.length cap) rs) : RulsAt W A rs :=
  ⟨fun k hk => by
    rcases h.2 with ⟨h1, h2⟩ | ⟨g, c, cur, h1, h2, h3, _⟩
    · omega
    · have hA : A = some ⟨g, 0, none⟩ := by injection h1
      refine ⟨g, 0, hA, (Array.getElem?_eq_some_iff.1 h3).1, fun i u hu => ?_⟩
      have := World.ownsRow.cells h (g := g) (by rw [hA]; rfl) (k * 12 + i) u (rulsC_get rs k hk i u (by simpa [rulC] using hu))
      rw [add0] at this
      rw [Nat.zero_add]
      simpa using this⟩
/-- the whole row, at the head of its block -/
theorem OwnR.row {W : World} {base : Nat} {v : Value} {rs : List Rul} (h : OwnR W base v rs) (hne : 0 < rs.length) : ∃ g cap, v = .slice (some ⟨g, 0, none⟩) rs.length cap ∧ base ≤ g ∧ ∀ j u, (rulsC rs)[j]? = some u → W.cell? ((⟨g, 0, none⟩ : Addr).add j) = some u := by
  rcases h.2 with ⟨h1, h2⟩ | ⟨g, c, cur, h1, h2, h3, _⟩
  · omega
  · exact ⟨g, c, h1, h2, World.ownsRow.cells h (by rw [h1]; rfl)⟩
theorem made_len (z : Array Value) (n : Nat) : (madeCells z n).toList.length = n := by rw [Array.length_toList, size_madeCells]
/-- what a copy over a new row of the same length leaves -/
theorem splice_whole {α : Type} (L cs : List α) (h : L.length = cs.length) : splice L 0 cs = cs := by
  unfold splice
  rw [Nat.zero_add, List.drop_of_length_le (by omega)]; simp
set_option maxHeartbeats 1000000 in
set_option maxRecDepth 100000 in
theorem tabRules_any (B : Nat) (c : Cfg) (rs : List Rul) (base : Nat) (v : Value) (w : World) (hl : rs.length ≤ 100000) (hT : TabAt w B c v) (hO : OwnR w base v rs) :
    Calls Try.prog 44 #[.pointer (some ⟨B, 0, none⟩)] w fun e w' => ∃ g, e = .returned (.slice (some ⟨g, 0, none⟩) rs.length rs.length) ∧ w.heap.size ≤ g ∧ OwnR w' w.heap.size (.slice (some ⟨g, 0, none⟩) rs.length rs.length) rs ∧ Below w.heap.size w w' := by
  obtain ⟨A, cap, rfl⟩ := hO.slice
  obtain ⟨i0, hi, hz0, hz1, hz2⟩ := info_parts infoRule
  have hmk : ∀ W : World, (Instr.makeSlice 46 (.int .i64 (rs.length : Int)) (.int .i64 (rs.length : Int))).run Try.prog W = .ok (.slice (some ⟨W.heap.size, 0, none⟩) rs.length rs.length) (W.alloc (.cells (madeCells (Value.agg #[.int .i64 0, .int .u32 0, .int .i64 0, .int .u32 0, .int .i64 0, .int .u16 0, .int .u16 0, .int .u16 0, .int .u16 0, .int .u8 0, .int .u8 0, .int .i64 0]).cells (rs.length * 12)) 60)) := fun W => by
    have := run_make (P := Try.prog) W 46 60 i0 _ Try.underlying46 hi hz0 .i64 .i64 (rs.length : Int) (rs.length : Int) (by omega) (by omega) (by rw [hz2]; omega) (by omega)
    rw [this, hz1]
    simp
  have c7 := hT.cell (i := 7) rfl
  have cl := hT.lt
  have HO := Sd.mk hO
  obtain ⟨Z, hZ⟩ : ∃ Z, madeCells (Value.agg #[.int .i64 0, .int .u32 0, .int .i64 0, .int .u32 0, .int .i64 0, .int .u16 0, .int .u16 0, .int .u16 0, .int .u16 0, .int .u8 0, .int .u8 0, .int .i64 0]).cells (rs.length * 12) = Z := ⟨_, rfl⟩
  have hZl : Z.size = rs.length * 12 := by rw [← hZ, size_madeCells]
  rw [hZ] at hmk
  have HZL := Sd.mk hZl
  have hfin : ∀ w1, w1.heap[w.heap.size]? = some (.cells (rulsC rs).toArray 60 (0, 0)) → OwnR w1 w.heap.size (.slice (some ⟨w.heap.size, 0, none⟩) rs.length rs.length) rs := fun w1 h =>
    ⟨rulsC_len rs, .inr ⟨w.heap.size, rs.length, _, rfl, Nat.le_refl _, h, Nat.le_refl _, by unfold maxLen; omega, by rw [List.size_toArray, rulsC_len], by rw [List.take_of_length_le (by rw [rulsC_len]; exact Nat.le_refl _)]⟩⟩
  have HF := Sd.mk hfin
  clear hZl hZ hi hz0 hz1 hz2 hfin hO hT
  go_enter Try.func44, Try.ntmps44
  go_upto_region 4 with fail
  have HBN := Sd.mk (below_alloc (Below.refl w.heap.size w) (.cells Z 60))
  go_wp2_with (with_reducible refine wpList_copy_wide rfl (.tmp 12) (.tmp 16) 46 46 rfl 12 60 Try.underlying46 sizeRule (some ⟨w.heap.size, 0, none⟩) A rs.length rs.length rs.length cap rfl rfl w.heap.size 0 Z.toList 60 ?c1 (rulsC rs) ?c2 ?c3 ?c4 (ruls_one rs) ?c5)
  case c1 =>
    have := Blk.new w Z 60
    unfold Blk at this
    simpa using this
  case c2 => rw [rulsC_len]; show _ = Nat.min _ _ * 12; rw [show Nat.min rs.length rs.length = rs.length from Nat.min_self _]
  case c3 =>
    intro hne
    obtain ⟨g, cp, hv, _, hc⟩ := HO.out.row hne
    injection hv with h1
    exact ⟨_, h1, fun j u hu => (HBN.out.cell (World.block_lt_of_cell? w _ (hc j u hu))).trans (hc j u hu)⟩
  case c4 => rw [rulsC_len]; have e : Z.toList.length = rs.length * 12 := Array.length_toList.trans HZL.out; omega
  case c5 =>
    intro w1 hg1 hw1
    have hb1 : Below w.heap.size w w1 := by
      rcases hw1 with rfl | rfl
      · exact HBN.out
      · exact below_setRow HBN.out (Nat.le_refl _) _
    rw [splice_whole _ _ (by rw [rulsC_len]; exact Array.length_toList.trans HZL.out)] at hg1
    have HG := Sd.mk hg1
    have HB1 := Sd.mk hb1
    clear hg1 hb1 hw1
    go_wp2
    go_ret
    exact ⟨_, rfl, Nat.le_refl _, HF.out w1 HG.out, HB1.out⟩
end Go.Proofs.Ytljliopmphaoeaa
