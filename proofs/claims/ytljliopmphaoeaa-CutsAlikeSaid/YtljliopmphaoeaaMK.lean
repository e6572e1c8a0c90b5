/- Lists of rules lent and kept: mark, Same, Lend, Back. Lists of rules lent and taken back: Lend, Back. A list that was lent is taken back. Calls and headers in memory; Large, room. room and asked. asked. Play: what is kept between its steps. The reference's changes, as Play has them. -/
import Derived.Test.YtljliopmphaoeaaMR
import Derived.Test.YtljliopmphaoeaaA5
import Derived.Test.YtljliopmphaoeaaR1
import Derived.Test.YtljliopmphaoeaaL4
import Derived.Deep.MidRow
namespace Go.Proofs.Ytljliopmphaoeaa
open Go Go.RowKit Go.Proofs.Ytljliopmphaoeaa.Q
def markR (n : Int) : Rul := ⟨-7 - n, ⟨0, 0⟩, ⟨0, 0⟩, ⟨0, 0⟩, ⟨0, 0⟩, ⟨0, 0⟩, 77⟩
set_option maxHeartbeats 1000000 in
set_option maxRecDepth 100000 in
theorem mark_raw (n m : Int) (hm : IntKind.i64.wrap (-7 - n) = m) (w : World) : Calls Try.prog 61 #[.int .i64 n] w fun e w' => e = .returned (.agg #[.int .i64 m, .int .u32 0, .int .i64 0, .int .u32 0, .int .i64 0, .int .u16 0, .int .u16 0, .int .u16 0, .int .u16 0, .int .u8 0, .int .u8 0, .int .i64 77]) ∧ Below w.heap.size w w' := by
  go_enter Try.func61, Try.ntmps61
  go_wp2
  refine bodyPost_ret (v := .agg #[.int .i64 m, .int .u32 0, .int .i64 0, .int .u32 0, .int .i64 0, .int .u16 0, .int .u16 0, .int .u16 0, .int .u16 0, .int .u8 0, .int .u8 0, .int .i64 77]) (by simp [results, Try.results61, go_sem, *]) rfl ⟨rfl, ?_⟩
  exact below_alloc (Below.refl _ _) _
theorem mark_any (n : Int) (h0 : 0 ≤ n) (h9 : n ≤ 9) (w : World) : Calls Try.prog 61 #[.int .i64 n] w fun e w' => e = .returned (.agg #[.int .i64 (markR n).id, .int .u32 (markR n).src.a, .int .i64 (markR n).src.n, .int .u32 (markR n).dst.a, .int .i64 (markR n).dst.n, .int .u16 (markR n).sp.lo, .int .u16 (markR n).sp.hi, .int .u16 (markR n).dp.lo, .int .u16 (markR n).dp.hi, .int .u8 (markR n).pr.v, .int .u8 (markR n).pr.c, .int .i64 (markR n).act]) ∧ Below w.heap.size w w' := mark_raw n (-7 - n) (by rw [IntKind.wrap_i64]; omega) w
theorem neqR (r : Rul) (W : World) : (binOp .neq 60 (.agg #[.int .i64 r.id, .int .u32 r.src.a, .int .i64 r.src.n, .int .u32 r.dst.a, .int .i64 r.dst.n, .int .u16 r.sp.lo, .int .u16 r.sp.hi, .int .u16 r.dp.lo, .int .u16 r.dp.hi, .int .u8 r.pr.v, .int .u8 r.pr.c, .int .i64 r.act]) (.agg #[.int .i64 r.id, .int .u32 r.src.a, .int .i64 r.src.n, .int .u32 r.dst.a, .int .i64 r.dst.n, .int .u16 r.sp.lo, .int .u16 r.sp.hi, .int .u16 r.dp.lo, .int .u16 r.dp.hi, .int .u8 r.pr.v, .int .u8 r.pr.c, .int .i64 r.act])).run Try.prog W = .ok (.bool false) W := by go_simp
theorem eqlR (r : Rul) (W : World) : (binOp .eql 60 (.agg #[.int .i64 r.id, .int .u32 r.src.a, .int .i64 r.src.n, .int .u32 r.dst.a, .int .i64 r.dst.n, .int .u16 r.sp.lo, .int .u16 r.sp.hi, .int .u16 r.dp.lo, .int .u16 r.dp.hi, .int .u8 r.pr.v, .int .u8 r.pr.c, .int .i64 r.act]) (.agg #[.int .i64 r.id, .int .u32 r.src.a, .int .i64 r.src.n, .int .u32 r.dst.a, .int .i64 r.dst.n, .int .u16 r.sp.lo, .int .u16 r.sp.hi, .int .u16 r.dp.lo, .int .u16 r.dp.hi, .int .u8 r.pr.v, .int .u8 r.pr.c, .int .i64 r.act])).run Try.prog W = .ok (.bool true) W := by go_simp
theorem guardR (o : BinOp) (a0 a1 a2 a3 a4 a5 a6 a7 a8 a9 a10 a11 b0 b1 b2 b3 b4 b5 b6 b7 b8 b9 b10 b11 : Value) (x y : Operand) (W : World) : (eqGuard o 60 x y (.agg #[a0, a1, a2, a3, a4, a5, a6, a7, a8, a9, a10, a11]) (.agg #[b0, b1, b2, b3, b4, b5, b6, b7, b8, b9, b10, b11])).run Try.prog W = .ok () W := by cases o <;> kernel_rfl
set_option maxHeartbeats 1000000 in
set_option maxRecDepth 100000 in
theorem same_any (rs : List Rul) (A B : Option Addr) (cap cap2 : Nat) (hl : rs.length ≤ 100000) (w : World) (hA : RulsAt w A rs) (hB : RulsAt w B rs) :
    Calls Try.prog 62 #[.slice A rs.length cap, .slice B rs.length cap2] w fun e w' => e = .returned (.bool true) ∧ Below w.heap.size w w' := by
  have HA := Sd.mk hA
  have HB := Sd.mk hB
  clear hA hB
  go_enter Try.func62, Try.ntmps62
  go_wp2
  go_loopw [5] (fun iv wr => ∃ k : Nat, k ≤ rs.length ∧ iv = .int .i64 k ∧ Sd (Below w.heap.size w wr)) (fun iv _ => rs.length - (intOf iv).toNat)
  case atStart => exact ⟨0, by omega, rfl, ⟨Below.refl _ _⟩⟩
  case round =>
    obtain ⟨k, hk, rfl, HI⟩ := hrel
    by_cases hlt : k < rs.length
    · obtain ⟨g, o, rfl, hg, r0, r1, r2, r3, r4, r5, r6, r7, r8, r9, r10, r11⟩ := (HA.out.below HI.out).cells k hlt
      obtain ⟨g', o', rfl, hg', s0, s1, s2, s3, s4, s5, s6, s7, s8, s9, s10, s11⟩ := (HB.out.below HI.out).cells k hlt
      have hq := neqR rs[k]
      have hgd := guardR
      have HI' := Sd.mk (HI.out.drew)
      go_wp2_with (go_region)
      go_roundw
      case rel => exact ⟨k + 1, by omega, by go_num, HI'⟩
      case measure => simp [intOf]; omega
    · go_wp2
      go_ret
      exact ⟨rfl, HI.out⟩
end Go.Proofs.Ytljliopmphaoeaa

namespace Go.Proofs.Ytljliopmphaoeaa
open Go Go.RowKit Go.Proofs.Ytljliopmphaoeaa.Q
theorem splice_app {α : Type} (P R cs : List α) : splice (P ++ R) P.length cs = P ++ (cs ++ R.drop cs.length) := by
  unfold splice
  rw [List.take_left, List.drop_append]
  try simp only [List.append_assoc]
  rw [show List.drop (P.length + cs.length) P = [] from List.drop_of_length_le (by omega), List.nil_append, show P.length + cs.length - P.length = cs.length by omega]
theorem lend_cells (rs : List Rul) (a b : Rul) (Z : List Value) (hZ : Z.length = (rs.length + 2) * 12) :
    splice (splice (splice Z 0 (rulsC rs)) (rs.length * 12) (rulC a)) ((rs.length + 1) * 12) (rulC b) = rulsC (rs ++ [a, b]) := by
  have e1 : splice Z 0 (rulsC rs) = rulsC rs ++ Z.drop (rs.length * 12) := by
    unfold splice; rw [Nat.zero_add, rulsC_len]; simp
  rw [e1]
  have e2 := splice_app (rulsC rs) (Z.drop (rs.length * 12)) (rulC a)
  rw [rulsC_len] at e2
  rw [e2, ← List.append_assoc]
  have e3 := splice_app (rulsC rs ++ rulC a) (List.drop (rulC a).length (Z.drop (rs.length * 12))) (rulC b)
  rw [List.length_append, rulsC_len, show rs.length * 12 + (rulC a).length = (rs.length + 1) * 12 by rw [rulC_len]; omega] at e3
  rw [e3, rulC_len, rulC_len, List.drop_drop, List.drop_drop, List.drop_of_length_le (by omega), List.append_nil, rulsC_app, List.append_assoc]
  rfl
set_option maxRecDepth 100000 in
/-- a rule is stored within a row -/
theorem store_rul {ops : Array Oper} {rest : List Oper} {o : Oper} {a : Act} {w : World} {Q : Exit → Act → World → Prop} (hgd : o.guard = none) (x y : Operand) (ho : o.op = .store 60 x y) (r : Rul)
    (g off : Nat) (hx : a.eval x = .pointer (some ⟨g, off, none⟩)) (hy : a.eval y = .agg #[.int .i64 r.id, .int .u32 r.src.a, .int .i64 r.src.n, .int .u32 r.dst.a, .int .i64 r.dst.n, .int .u16 r.sp.lo, .int .u16 r.sp.hi, .int .u16 r.dp.lo, .int .u16 r.dp.hi, .int .u8 r.pr.v, .int .u8 r.pr.c, .int .i64 r.act]) (cur : List Value) (hg : w.heap[g]? = some (.cells cur.toArray 60 (0, 0))) (hfit : off + 12 ≤ cur.length)
    (h : wpList Try.prog ops Q rest (a.put o.dst undef) (w.setRow g (splice cur off (rulC r)).toArray)) : wpList Try.prog ops Q (o :: rest) a w :=
  wpList_store_at hgd 60 x y ho g off #[.int .i64 r.id, .int .u32 r.src.a, .int .i64 r.src.n, .int .u32 r.dst.a, .int .i64 r.dst.n, .int .u16 r.sp.lo, .int .u16 r.sp.hi, .int .u16 r.dp.lo, .int .u16 r.dp.hi, .int .u8 r.pr.v, .int .u8 r.pr.c, .int .i64 r.act] hx hy 60 cur hg sizeRule hfit (by have := ruls_one [r]; rwa [rulsC_one] at this) h
/-- a list that is being lent: its block -/
structure LendI (w : World) (g : Nat) (cur : List Value) (W : World) : Prop where
  below : Below w.heap.size w W
  row : W.heap[g]? = some (.cells cur.toArray 60 (0, 0))
  le : w.heap.size ≤ g
theorem LendI.more {w W W' : World} {g : Nat} {cur : List Value} (h : LendI w g cur W) (hb : Below W.heap.size W W') : LendI w g cur W' := ⟨beyond h.below hb, Blk.below (W := W) (B := g) h.row hb (Blk.lt (W := W) h.row), h.le⟩
theorem LendI.put {w W : World} {g : Nat} {cur X : List Value} (h : LendI w g cur W) : LendI w g X (W.setRow g X.toArray) := ⟨below_setRow h.below h.le _, setRow_heap W g _ _ _ _ h.row, h.le⟩
set_option maxHeartbeats 2000000 in
set_option maxRecDepth 100000 in
theorem lend_any (rs : List Rul) (A : Option Addr) (cap : Nat) (hl : rs.length ≤ 10000) (w : World) (hR : RulsAt w A rs) :
    Calls Try.prog 38 #[.slice A rs.length cap] w fun e w' => ∃ g, e = .returned (.slice (some ⟨g, 0, none⟩) rs.length (rs.length + 2)) ∧ w.heap.size ≤ g ∧ Blk w' g (rulsC (rs ++ [markR 0, markR 1])).toArray 60 ∧ Below w.heap.size w w' := by
  obtain ⟨Z, hZl, hmk0⟩ := mk_rules (rs.length + 2) (by omega)
  have hmk : ∀ W : World, (Instr.makeSlice 46 (.int .i64 ((rs.length : Int) + 2)) (.int .i64 ((rs.length : Int) + 2))).run Try.prog W = .ok (.slice (some ⟨W.heap.size, 0, none⟩) (rs.length + 2) (rs.length + 2)) (W.alloc (.cells Z 60)) := fun W => by
    have := hmk0 W
    push_cast at this
    exact this
  have HZL := Sd.mk hZl
  have HR := Sd.mk hR
  have HM0 := Sd.mk (fun W => mark_any 0 (by omega) (by omega) W)
  have HM1 := Sd.mk (fun W => mark_any 1 (by omega) (by omega) W)
  clear hZl hR hmk0
  go_enter Try.func38, Try.ntmps38
  go_upto_region 2 with fail
  have HBN := Sd.mk (below_alloc (Below.refl w.heap.size w) (.cells Z 60))
  have hrow : (w.alloc (.cells Z 60)).heap[w.heap.size]? = some (.cells Z.toList.toArray 60 (0, 0)) := by
    have := Blk.new w Z 60
    unfold Blk at this
    simpa using this
  have HI0 : Sd (LendI w w.heap.size Z.toList (w.alloc (.cells Z 60))) := ⟨HBN.out, hrow, Nat.le_refl _⟩
  clear hrow
  go_wp2_with (with_reducible refine wpList_copy_wide rfl (.tmp 8) (.tmp 9) 46 46 rfl 12 60 Try.underlying46 sizeRule (some ⟨w.heap.size, 0, none⟩) A (rs.length + 2) (rs.length + 2) rs.length cap rfl rfl w.heap.size 0 Z.toList 60 ?c1 (rulsC rs) ?c2 ?c3 ?c4 (ruls_one rs) ?c5)
  case c1 => exact HI0.out.row
  case c2 => rw [rulsC_len, show Nat.min rs.length (rs.length + 2) = rs.length from Nat.min_eq_left (by omega)]
  case c3 =>
    intro hne
    obtain ⟨a, h1, hc⟩ := (HR.out.below HBN.out).flat hne
    first | exact ⟨rfl, a, h1, hc⟩ | exact ⟨a, h1, hc⟩
  case c4 => rw [rulsC_len]; have e : Z.toList.length = (rs.length + 2) * 12 := Array.length_toList.trans HZL.out; omega
  case c5 =>
    intro w1 hg1 hw1
    have HI1 : Sd (LendI w w.heap.size (splice Z.toList 0 (rulsC rs)) w1) := ⟨by
      rcases hw1 with rfl | rfl
      · exact ⟨HI0.out.below, hg1, Nat.le_refl _⟩
      · exact HI0.out.put⟩
    have hlen1 : (splice Z.toList 0 (rulsC rs)).length = (rs.length + 2) * 12 := (splice_len _ _ _ (by rw [rulsC_len]; have e : Z.toList.length = (rs.length + 2) * 12 := Array.length_toList.trans HZL.out; omega)).trans (Array.length_toList.trans HZL.out)
    have HL1 := Sd.mk hlen1
    have HC := Sd.mk (lend_cells rs (markR 0) (markR 1) Z.toList (Array.length_toList.trans HZL.out))
    generalize splice Z.toList 0 (rulsC rs) = cur1 at HI1 HL1 HC
    generalize hg : w.heap.size = g at *
    clear hg1 hw1 hlen1
    go_wp2_with fail
    refine (HM0.out _).mono ?_
    rintro e w2 ⟨rfl, hb2⟩
    have HI2 := Sd.mk (HI1.out.more hb2)
    clear hb2
    have HF2 := Sd.mk (Blk.frozen (W := w2) (B := g) HI2.out.row)
    go_wp2_with (with_reducible refine store_rul rfl (.tmp 15) (.tmp 14) rfl (markR 0) g (rs.length * 12) rfl rfl cur1 HI2.out.row ?s1 ?s2)
    case s1 => have := HL1.out; omega
    have HI3 := Sd.mk (HI2.out.put (X := splice cur1 (rs.length * 12) (rulC (markR 0))))
    have HL3 : Sd ((splice cur1 (rs.length * 12) (rulC (markR 0))).length = (rs.length + 2) * 12) := ⟨(splice_len _ _ _ (by have := HL1.out; rw [rulC_len]; omega)).trans HL1.out⟩
    generalize splice cur1 (rs.length * 12) (rulC (markR 0)) = cur3 at HI3 HL3 HC ⊢
    generalize w2.setRow g cur3.toArray = w3 at HI3 ⊢
    refine (HM1.out _).mono ?_
    rintro e w4 ⟨rfl, hb4⟩
    have HI4 := Sd.mk (HI3.out.more hb4)
    clear hb4
    go_wp2_with (with_reducible refine store_rul rfl (.tmp 21) (.tmp 20) rfl (markR 1) g ((rs.length + 1) * 12) rfl rfl cur3 HI4.out.row ?s3 ?s4)
    case s3 => have := HL3.out; omega
    have HI5 := Sd.mk (HI4.out.put (X := splice cur3 ((rs.length + 1) * 12) (rulC (markR 1))))
    rw [HC.out] at HI5
    go_ret
    exact ⟨g, rfl, HI5.out.le, by rw [HC.out]; exact HI5.out.row, by rw [HC.out]; exact HI5.out.below⟩
end Go.Proofs.Ytljliopmphaoeaa

namespace Go.Proofs.Ytljliopmphaoeaa
open Go Go.RowKit Go.Proofs.Ytljliopmphaoeaa.Q
theorem row_ruls {W : World} {g : Nat} {rs xs : List Rul} (h : Blk W g (rulsC (rs ++ xs)).toArray 60) : RulsAt W (some ⟨g, 0, none⟩) rs :=
  ⟨fun k hk => ⟨g, 0, rfl, h.lt, fun i u hu => by
    have h1 : (rulsC (rs ++ xs))[k * 12 + i]? = some u := rulsC_get (rs ++ xs) k (by rw [List.length_append]; omega) i u (by rw [List.getElem_append_left hk]; simpa [rulC] using hu)
    rw [h.at, Nat.zero_add]
    simpa using h1⟩⟩
theorem row_rul {W : World} {g : Nat} {rs : List Rul} (h : Blk W g (rulsC rs).toArray 60) (k : Nat) (r : Rul) (hr : rs[k]? = some r) (i : Nat) (u : Value) (hu : (rulC r)[i]? = some u) : W.cell? ⟨g, k * 12 + i, none⟩ = some u := by
  obtain ⟨hk, rfl⟩ := List.getElem?_eq_some_iff.1 hr
  rw [h.at]
  simpa using rulsC_get rs k hk i u hu
def BackS (M : World) (g n : Nat) (W : World) : Prop := Below M.heap.size M W ∧ W.cell? ⟨g, n * 12, none⟩ = some (.int .i64 (markR 0).id) ∧ W.cell? ⟨g, n * 12 + 1, none⟩ = some (.int .u32 (markR 0).src.a) ∧ W.cell? ⟨g, n * 12 + 2, none⟩ = some (.int .i64 (markR 0).src.n) ∧ W.cell? ⟨g, n * 12 + 3, none⟩ = some (.int .u32 (markR 0).dst.a) ∧ W.cell? ⟨g, n * 12 + 4, none⟩ = some (.int .i64 (markR 0).dst.n) ∧ W.cell? ⟨g, n * 12 + 5, none⟩ = some (.int .u16 (markR 0).sp.lo) ∧ W.cell? ⟨g, n * 12 + 6, none⟩ = some (.int .u16 (markR 0).sp.hi) ∧ W.cell? ⟨g, n * 12 + 7, none⟩ = some (.int .u16 (markR 0).dp.lo) ∧ W.cell? ⟨g, n * 12 + 8, none⟩ = some (.int .u16 (markR 0).dp.hi) ∧ W.cell? ⟨g, n * 12 + 9, none⟩ = some (.int .u8 (markR 0).pr.v) ∧ W.cell? ⟨g, n * 12 + 10, none⟩ = some (.int .u8 (markR 0).pr.c) ∧ W.cell? ⟨g, n * 12 + 11, none⟩ = some (.int .i64 (markR 0).act) ∧
  W.cell? ⟨g, (n + 1) * 12, none⟩ = some (.int .i64 (markR 1).id) ∧ W.cell? ⟨g, (n + 1) * 12 + 1, none⟩ = some (.int .u32 (markR 1).src.a) ∧ W.cell? ⟨g, (n + 1) * 12 + 2, none⟩ = some (.int .i64 (markR 1).src.n) ∧ W.cell? ⟨g, (n + 1) * 12 + 3, none⟩ = some (.int .u32 (markR 1).dst.a) ∧ W.cell? ⟨g, (n + 1) * 12 + 4, none⟩ = some (.int .i64 (markR 1).dst.n) ∧ W.cell? ⟨g, (n + 1) * 12 + 5, none⟩ = some (.int .u16 (markR 1).sp.lo) ∧ W.cell? ⟨g, (n + 1) * 12 + 6, none⟩ = some (.int .u16 (markR 1).sp.hi) ∧ W.cell? ⟨g, (n + 1) * 12 + 7, none⟩ = some (.int .u16 (markR 1).dp.lo) ∧ W.cell? ⟨g, (n + 1) * 12 + 8, none⟩ = some (.int .u16 (markR 1).dp.hi) ∧ W.cell? ⟨g, (n + 1) * 12 + 9, none⟩ = some (.int .u8 (markR 1).pr.v) ∧ W.cell? ⟨g, (n + 1) * 12 + 10, none⟩ = some (.int .u8 (markR 1).pr.c) ∧ W.cell? ⟨g, (n + 1) * 12 + 11, none⟩ = some (.int .i64 (markR 1).act)
theorem backS {M : World} {g : Nat} {rs : List Rul} (h : Blk M g (rulsC (rs ++ [markR 0, markR 1])).toArray 60) (W : World) (hW : Below M.heap.size M W) : BackS M g rs.length W := by
  have h1 := h.below hW h.lt
  have k0 := fun i u => row_rul h1 rs.length (markR 0) (by simp) i u
  have k1 := fun i u => row_rul h1 (rs.length + 1) (markR 1) (by simp) i u
  exact ⟨hW, k0 0 _ rfl, k0 1 _ rfl, k0 2 _ rfl, k0 3 _ rfl, k0 4 _ rfl, k0 5 _ rfl, k0 6 _ rfl, k0 7 _ rfl, k0 8 _ rfl, k0 9 _ rfl, k0 10 _ rfl, k0 11 _ rfl, k1 0 _ rfl, k1 1 _ rfl, k1 2 _ rfl, k1 3 _ rfl, k1 4 _ rfl, k1 5 _ rfl, k1 6 _ rfl, k1 7 _ rfl, k1 8 _ rfl, k1 9 _ rfl, k1 10 _ rfl, k1 11 _ rfl⟩
/-- the owner writes over it -/
structure BackI (w : World) (g n : Nat) (W : World) : Prop where
  only : Only w W (fun k => k = g)
  row : ∃ cur : List Value, W.heap[g]? = some (.cells cur.toArray 60 (0, 0)) ∧ cur.length = (n + 2) * 12
set_option maxHeartbeats 2000000 in
set_option maxRecDepth 100000 in
theorem back_any (rs : List Rul) (g : Nat) (A : Option Addr) (cap : Nat) (hl : rs.length ≤ 10000) (w : World) (hR : RulsAt w A rs) (hB : Blk w g (rulsC (rs ++ [markR 0, markR 1])).toArray 60) :
    Calls Try.prog 39 #[.slice (some ⟨g, 0, none⟩) rs.length (rs.length + 2), .slice A rs.length cap] w fun e w' => e = .returned (.bool true) ∧ Only w w' (fun k => k = g) := by
  have HC := Sd.mk (fun W => backS hB W)
  have HM0 : Sd (∀ W, BackS w g rs.length W → Calls Try.prog 61 #[.int .i64 0] W fun e w' => e = .returned (.agg #[.int .i64 (markR 0).id, .int .u32 (markR 0).src.a, .int .i64 (markR 0).src.n, .int .u32 (markR 0).dst.a, .int .i64 (markR 0).dst.n, .int .u16 (markR 0).sp.lo, .int .u16 (markR 0).sp.hi, .int .u16 (markR 0).dp.lo, .int .u16 (markR 0).dp.hi, .int .u8 (markR 0).pr.v, .int .u8 (markR 0).pr.c, .int .i64 (markR 0).act]) ∧ BackS w g rs.length w') := ⟨fun W hW => (mark_any 0 (by omega) (by omega) W).mono fun e w' h => ⟨h.1, backS hB w' (beyond hW.1 h.2)⟩⟩
  have HM1 : Sd (∀ W, BackS w g rs.length W → Calls Try.prog 61 #[.int .i64 1] W fun e w' => e = .returned (.agg #[.int .i64 (markR 1).id, .int .u32 (markR 1).src.a, .int .i64 (markR 1).src.n, .int .u32 (markR 1).dst.a, .int .i64 (markR 1).dst.n, .int .u16 (markR 1).sp.lo, .int .u16 (markR 1).sp.hi, .int .u16 (markR 1).dp.lo, .int .u16 (markR 1).dp.hi, .int .u8 (markR 1).pr.v, .int .u8 (markR 1).pr.c, .int .i64 (markR 1).act]) ∧ BackS w g rs.length w') := ⟨fun W hW => (mark_any 1 (by omega) (by omega) W).mono fun e w' h => ⟨h.1, backS hB w' (beyond hW.1 h.2)⟩⟩
  have HS : Sd (∀ W, BackS w g rs.length W → Calls Try.prog 62 #[.slice (some ⟨g, 0, none⟩) rs.length (rs.length + 2), .slice A rs.length cap] W fun e w' => e = .returned (.bool true) ∧ BackS w g rs.length w') := ⟨fun W hW => (same_any rs (some ⟨g, 0, none⟩) A (rs.length + 2) cap (by omega) W (row_ruls (hB.below hW.1 hB.lt)) (hR.below hW.1)).mono fun e w' h => ⟨h.1, backS hB w' (beyond hW.1 h.2)⟩⟩
  have HM5 := Sd.mk (fun W => mark_any 5 (by omega) (by omega) W)
  have HROW : Sd (∀ W, Below w.heap.size w W → BackI w g rs.length W) := ⟨fun W hW => ⟨below_only hW _, _, hB.below hW hB.lt, by rw [rulsC_len]; simp⟩⟩
  have HGS := Sd.mk hB.lt
  have hq0 := eqlR (markR 0)
  have hq1 := eqlR (markR 1)
  have hgd := guardR
  clear hR hB
  go_enter Try.func39, Try.ntmps39
  go_upto_region 2 with fail
  have hi0 : (rs.length : Int) < (rs.length : Int) + 2 := by omega
  have hi1 : (rs.length : Int) + 1 < (rs.length : Int) + 2 := by omega
  have hi2 : (0 : Int) ≤ (rs.length : Int) + 1 := by omega
  have hwr : IntKind.i64.wrap ((rs.length : Int) + 1) = (rs.length : Int) + 1 := by rw [IntKind.wrap_i64]; omega
  refine wp_region_quietC (C := BackS w g rs.length) (by kernel_rfl) (by kernel_rfl) (HC.out _ (Below.refl _ _).drew) ?_
  repeat (first
    | go_big_quiet_skip
    | (go_big_quiet_want
       first
         | (refine quiet_run ?_
            apply Exists.intro
            refine ⟨fun w hw => ?_, ?_⟩
            · ((unfold BackS at hw); go_split_ands; go_simp; (try with_reducible rfl))
            go_big_quiet_on
            try simp only [Act.put, List.setIfInBounds_toArray, List.set_cons_zero, List.set_cons_succ])
         | (apply Exists.intro
            refine ⟨fun w hw => ?_, ?_⟩
            · (unfold Oper.quietAt; go_simp; first | (with_reducible exact HM0.out _ hw) | (with_reducible exact HM1.out _ hw) | (with_reducible exact HS.out _ hw))
            go_big_quiet_on
            try simp only [Act.put, List.setIfInBounds_toArray, List.set_cons_zero, List.set_cons_succ])))
  refine wpQuiet_nil ?_
  intro W hW
  have HI := Sd.mk (HROW.out W hW.1)
  clear hW hq0 hq1 hgd hi0 hi1 hi2 hwr
  go_wp2
  go_loopw [7] (fun iv wr => ∃ k : Nat, k ≤ rs.length + 2 ∧ iv = .int .i64 k ∧ Sd (BackI w g rs.length wr)) (fun iv _ => rs.length + 2 - (intOf iv).toNat)
  case atStart => exact ⟨0, by omega, rfl, HI⟩
  case round =>
    obtain ⟨k, hk, rfl, HJ⟩ := hrel
    by_cases hlt : k < rs.length + 2
    · go_wp2_with fail
      refine (HM5.out _).mono ?_
      rintro e w2 ⟨rfl, hb2⟩
      obtain ⟨cur, hrow, hlen⟩ := HJ.out.row
      have hrow2 : w2.heap[g]? = some (.cells cur.toArray 60 (0, 0)) := Blk.below (W := wr) (B := g) hrow hb2 (Blk.lt (W := wr) hrow)
      have HO2 := Sd.mk (HJ.out.only.trans (below_only hb2 (fun _ => False)) (fun _ _ h => h.elim))
      have HR2 := Sd.mk (And.intro hrow2 hlen)
      clear hrow hrow2 hlen hb2
      go_wp2_with (with_reducible refine store_rul rfl (.tmp 44) (.tmp 43) rfl (markR 5) g (k * 12) rfl rfl cur HR2.out.1 ?s1 ?s2)
      case s1 => have := HR2.out.2; omega
      have HJ3 : Sd (BackI w g rs.length (w2.setRow g (splice cur (k * 12) (rulC (markR 5))).toArray)) := ⟨⟨HO2.out.trans (T := fun k => k = g) ⟨rfl, rfl, rfl, by simp, fun k _ hne => setRow_other _ _ _ _ hne⟩ (fun _ _ h => h), _, setRow_heap w2 g _ _ _ _ HR2.out.1, (splice_len _ _ _ (by have := HR2.out.2; rw [rulC_len]; omega)).trans HR2.out.2⟩⟩
      go_roundw
      case rel => exact ⟨k + 1, by omega, by go_num, HJ3⟩
      case measure => simp [intOf]; omega
    · go_wp2
      go_ret
      exact ⟨rfl, HJ.out.only⟩
end Go.Proofs.Ytljliopmphaoeaa

namespace Go.Proofs.Ytljliopmphaoeaa
open Go Go.RowKit Go.Proofs.Ytljliopmphaoeaa.Q
/-- a list of headers in memory -/
structure HdrsAt (W : World) (A : Option Addr) (hs : List Hdr) : Prop where
  at' : ∀ k (h : k < hs.length), ∃ g o, A = some ⟨g, o, none⟩ ∧ g < W.heap.size ∧ ∀ i u, #[.int .u32 hs[k].src, .int .u32 hs[k].dst, .int .u16 hs[k].sp, .int .u16 hs[k].dp, .int .u8 hs[k].pr][i]? = some u → W.cell? ⟨g, o + k * 5 + i, none⟩ = some u
theorem HdrsAt.below {W W' : World} {A : Option Addr} {hs : List Hdr} (h : HdrsAt W A hs) (hb : Below W.heap.size W W') : HdrsAt W' A hs :=
  ⟨fun k hk => by
    obtain ⟨g, o, h1, h2, h3⟩ := h.at' k hk
    exact ⟨g, o, h1, Nat.lt_of_lt_of_le h2 hb.size, fun i u hu => (hb.cell (p := ⟨g, o + k * 5 + i, none⟩) h2).trans (h3 i u hu)⟩⟩
theorem HdrsAt.cells {W : World} {A : Option Addr} {hs : List Hdr} (h : HdrsAt W A hs) (k : Nat) (hk : k < hs.length) : ∃ g o, A = some ⟨g, o, none⟩ ∧ g < W.heap.size ∧
    W.cell? ⟨g, o + k * 5, none⟩ = some (.int .u32 hs[k].src) ∧ W.cell? ⟨g, o + k * 5 + 1, none⟩ = some (.int .u32 hs[k].dst) ∧ W.cell? ⟨g, o + k * 5 + 2, none⟩ = some (.int .u16 hs[k].sp) ∧ W.cell? ⟨g, o + k * 5 + 3, none⟩ = some (.int .u16 hs[k].dp) ∧ W.cell? ⟨g, o + k * 5 + 4, none⟩ = some (.int .u8 hs[k].pr) := by
  obtain ⟨g, o, h1, h2, h3⟩ := h.at' k hk
  exact ⟨g, o, h1, h2, h3 0 _ rfl, h3 1 _ rfl, h3 2 _ rfl, h3 3 _ rfl, h3 4 _ rfl⟩
/-- a call on an engine -/
structure OpV where
  kind : Int
  place : Int
  id : Int
  rule : Rul
  head : Hdr
  la : Option Addr
  lcap : Nat
  list : List Rul
structure OpV.Wf (o : OpV) : Prop where
  rule : o.rule.Wf
  head : o.head.Wf
  list : ∀ r ∈ o.list, r.Wf
  cap : o.list.length ≤ o.lcap
def opC (o : OpV) : Array Value := #[.int .i64 o.kind, .int .i64 o.place, .int .i64 o.id, .int .i64 o.rule.id, .int .u32 o.rule.src.a, .int .i64 o.rule.src.n, .int .u32 o.rule.dst.a, .int .i64 o.rule.dst.n, .int .u16 o.rule.sp.lo, .int .u16 o.rule.sp.hi, .int .u16 o.rule.dp.lo, .int .u16 o.rule.dp.hi, .int .u8 o.rule.pr.v, .int .u8 o.rule.pr.c, .int .i64 o.rule.act, .int .u32 o.head.src, .int .u32 o.head.dst, .int .u16 o.head.sp, .int .u16 o.head.dp, .int .u8 o.head.pr, .slice o.la o.list.length o.lcap]
structure OpsAt (W : World) (A : Option Addr) (os : List OpV) : Prop where
  at' : ∀ k (h : k < os.length), ∃ g o, A = some ⟨g, o, none⟩ ∧ g < W.heap.size ∧ ∀ i u, (opC os[k])[i]? = some u → W.cell? ⟨g, o + k * 21 + i, none⟩ = some u
  ruls : ∀ k (h : k < os.length), RulsAt W os[k].la os[k].list
theorem OpsAt.below {W W' : World} {A : Option Addr} {os : List OpV} (h : OpsAt W A os) (hb : Below W.heap.size W W') : OpsAt W' A os :=
  ⟨fun k hk => by
    obtain ⟨g, o, h1, h2, h3⟩ := h.at' k hk
    exact ⟨g, o, h1, Nat.lt_of_lt_of_le h2 hb.size, fun i u hu => (hb.cell (p := ⟨g, o + k * 21 + i, none⟩) h2).trans (h3 i u hu)⟩, fun k hk => (h.ruls k hk).below hb⟩
/-- is there more than is looked at? -/
def manyI (os : List OpV) : Bool := os.any fun o => decide (2000 < o.list.length)
def largeI (os : List OpV) (nh : Nat) : Bool := decide (2000 < os.length) || decide (2000 < nh) || manyI os
theorem many_at (os : List OpV) (k : Nat) (hk : k < os.length) (h : 2000 < os[k].list.length) : manyI os = true := by
  unfold manyI
  rw [List.any_eq_true]
  exact ⟨_, List.getElem_mem hk, by simp [h]⟩
theorem many_none (os : List OpV) (h : ∀ j (hj : j < os.length), os[j].list.length ≤ 2000) : manyI os = false := by
  unfold manyI
  rw [List.any_eq_false]
  intro x hx
  obtain ⟨j, hj, rfl⟩ := List.mem_iff_getElem.1 hx
  have := h j hj
  simp; omega
set_option maxHeartbeats 1000000 in
set_option maxRecDepth 100000 in
theorem large_any (os : List OpV) (A B : Option Addr) (cap nh capH : Nat) (hl : os.length ≤ 9223372036854775807) (w : World) (hO : OpsAt w A os) :
    Calls Try.prog 20 #[.slice A os.length cap, .slice B nh capH] w fun e w' => e = .returned (.bool (largeI os nh)) ∧ w = w' := by
  have HO := Sd.mk hO
  clear hO
  by_cases h1 : 2000 < os.length
  · have HQ : Sd (largeI os nh = true) := ⟨by unfold largeI; simp [h1]⟩
    go_enter Try.func20, Try.ntmps20
    go_wp2
    go_ret
    exact ⟨ret_bool HQ.out.symm, rfl⟩
  · by_cases h2 : 2000 < nh
    · have HQ : Sd (largeI os nh = true) := ⟨by unfold largeI; simp [h2]⟩
      go_enter Try.func20, Try.ntmps20
      go_wp2
      go_ret
      exact ⟨ret_bool HQ.out.symm, rfl⟩
    · have HQ : Sd (largeI os nh = manyI os) := ⟨by unfold largeI; simp [h1, h2]⟩
      go_enter Try.func20, Try.ntmps20
      go_wp2
      go_loop [5] (fun iv => ∃ k : Nat, k ≤ os.length ∧ iv = .int .i64 k ∧ Sd (∀ j (h : j < os.length), j < k → os[j].list.length ≤ 2000)) (fun iv => os.length - (intOf iv).toNat)
      case atStart => exact ⟨0, by omega, rfl, ⟨fun j h hj => by omega⟩⟩
      case round =>
        obtain ⟨k, hk, rfl, HI⟩ := hrel
        by_cases hlt : k < os.length
        · obtain ⟨g, o, rfl, hg, hc⟩ := HO.out.at' k hlt
          have c20 : w.cell? ⟨g, o + k * 21 + 20, none⟩ = some (.slice os[k].la os[k].list.length os[k].lcap) := hc 20 _ rfl
          by_cases hb : 2000 < os[k].list.length
          · have HX := Sd.mk (HQ.out.trans (many_at os k hlt hb))
            go_wp2
            go_ret
            exact ⟨ret_bool HX.out.symm, rfl⟩
          · have HE := Sd.mk hb
            go_wp2
            go_round
            case rel => exact ⟨k + 1, by omega, by go_num, ⟨fun j h hj => by
              by_cases e : j = k
              · subst e; have := HE.out; omega
              · exact HI.out j h (by omega)⟩⟩
            case measure => simp [intOf]; omega
        · have HX := Sd.mk (HQ.out.trans (many_none os (fun j h => HI.out j h (by omega))))
          go_wp2
          go_ret
          exact ⟨ret_bool HX.out.symm, rfl⟩
/-! ### what is promised of this kind of engines -/
def kindC : Array Value := #[.func (.func 33) #[] #[], .func (.func 34) #[] #[], .int .i64 0, .func (.func 13) #[] #[]]
set_option maxRecDepth 100000 in
theorem size_any (v : Value) (w : World) : Calls Try.prog 33 #[v] w fun e w' => e = .returned (.int .i64 0) ∧ w = w' := by
  go_enter Try.func33, Try.ntmps33
  go_wp2
  go_ret
  exact ⟨rfl, rfl⟩
set_option maxRecDepth 100000 in
theorem budget_any (c : Cfg) (w : World) : Calls Try.prog 34 #[.agg #[.int .i64 c.max, .int .i64 c.dflt, .int .i64 c.prune, .int .i64 c.grid, .int .i64 c.tuple, .int .i64 c.binth, .int .i64 c.depth]] w fun e w' => e = .returned (.int .i64 0) ∧ Below w.heap.size w w' := by
  go_enter Try.func34, Try.ntmps34
  go_wp2
  go_ret
  exact ⟨rfl, by first | exact Below.refl _ _ | exact below_alloc (Below.refl _ _) _⟩
set_option maxRecDepth 100000 in
theorem kind_any (w : World) : Calls Try.prog 21 #[] w fun e w' => e = .returned (.agg kindC) ∧ Below w.heap.size w w' := by
  have hsf0 := fun (a : Addr) (c : Array Value) (w : World) => run_store Try.prog w a (.func (.func 33) #[] c) .plain rfl
  have hsf1 := fun (a : Addr) (c : Array Value) (w : World) => run_store Try.prog w a (.func (.func 34) #[] c) .plain rfl
  have hsf2 := fun (a : Addr) (c : Array Value) (w : World) => run_store Try.prog w a (.func (.func 13) #[] c) .plain rfl
  go_enter Try.func21, Try.ntmps21
  go_wp2
  refine bodyPost_ret (v := .agg kindC) (by simp [results, kindC, Try.results21, go_sem, *]) rfl ⟨rfl, ?_⟩
  exact below_alloc (Below.refl _ _) _
end Go.Proofs.Ytljliopmphaoeaa

namespace Go.Proofs.Ytljliopmphaoeaa
open Go Go.RowKit Go.Proofs.Ytljliopmphaoeaa.Q
def RoomS (M : World) (B : Nat) (c : Cfg) (W : World) : Prop := Below M.heap.size M W ∧ W.cell? ⟨B, 0, none⟩ = some (.func (.func 33) #[] #[]) ∧ W.cell? ⟨B, 1, none⟩ = some (.func (.func 34) #[] #[]) ∧ W.cell? ⟨B + 1, 0, none⟩ = some (.int .i64 c.max) ∧ W.cell? ⟨B + 1, 1, none⟩ = some (.int .i64 c.dflt) ∧ W.cell? ⟨B + 1, 2, none⟩ = some (.int .i64 c.prune) ∧ W.cell? ⟨B + 1, 3, none⟩ = some (.int .i64 c.grid) ∧ W.cell? ⟨B + 1, 4, none⟩ = some (.int .i64 c.tuple) ∧ W.cell? ⟨B + 1, 5, none⟩ = some (.int .i64 c.binth) ∧ W.cell? ⟨B + 1, 6, none⟩ = some (.int .i64 c.depth)
set_option maxHeartbeats 1000000 in
set_option maxRecDepth 100000 in
theorem room_any (c : Cfg) (lv : Value) (e : Int) (w : World) : Calls Try.prog 36 #[.agg kindC, .agg #[.int .i64 c.max, .int .i64 c.dflt, .int .i64 c.prune, .int .i64 c.grid, .int .i64 c.tuple, .int .i64 c.binth, .int .i64 c.depth], lv, .int .i64 e] w fun x w' => x = .returned (.int .i64 e) ∧ Below w.heap.size w w' := by
  unfold kindC
  obtain ⟨M, hM⟩ : ∃ M, (w.alloc (.cells #[.func (.func 33) #[] #[], .func (.func 34) #[] #[], .int .i64 0, .func (.func 13) #[] #[]] 70)).alloc (.cells #[.int .i64 c.max, .int .i64 c.dflt, .int .i64 c.prune, .int .i64 c.grid, .int .i64 c.tuple, .int .i64 c.binth, .int .i64 c.depth] 24) = M := ⟨_, rfl⟩
  have hb : Below w.heap.size w M := by rw [← hM]; exact below_alloc (below_alloc (Below.refl _ _) _) _
  have hk : Blk M w.heap.size #[.func (.func 33) #[] #[], .func (.func 34) #[] #[], .int .i64 0, .func (.func 13) #[] #[]] 70 := by rw [← hM]; exact (Blk.new w _ _).alloc _
  have hc : Blk M (w.heap.size + 1) #[.int .i64 c.max, .int .i64 c.dflt, .int .i64 c.prune, .int .i64 c.grid, .int .i64 c.tuple, .int .i64 c.binth, .int .i64 c.depth] 24 := by rw [← hM]; exact blkN (by simp) _ _
  have KS : ∀ W, Below M.heap.size M W → RoomS M w.heap.size c W := fun W hW => by
    have h1 := hk.below hW hk.lt
    have h2 := hc.below hW hc.lt
    exact ⟨hW, h1.cell (i := 0) rfl, h1.cell (i := 1) rfl, h2.cell (i := 0) rfl, h2.cell (i := 1) rfl, h2.cell (i := 2) rfl, h2.cell (i := 3) rfl, h2.cell (i := 4) rfl, h2.cell (i := 5) rfl, h2.cell (i := 6) rfl⟩
  have HS := Sd.mk KS
  have HB := Sd.mk hb
  have HM := Sd.mk hM
  have HZ : Sd (∀ W, RoomS M w.heap.size c W → Calls Try.prog 33 #[lv] W fun x w' => x = .returned (.int .i64 0) ∧ RoomS M w.heap.size c w') := ⟨fun W hW => (size_any lv W).mono fun x w' h => ⟨h.1, h.2 ▸ hW⟩⟩
  have HG : Sd (∀ W, RoomS M w.heap.size c W → Calls Try.prog 34 #[.agg #[.int .i64 c.max, .int .i64 c.dflt, .int .i64 c.prune, .int .i64 c.grid, .int .i64 c.tuple, .int .i64 c.binth, .int .i64 c.depth]] W fun x w' => x = .returned (.int .i64 0) ∧ RoomS M w.heap.size c w') := ⟨fun W hW => (budget_any c W).mono fun x w' h => ⟨h.1, KS w' (beyond hW.1 h.2)⟩⟩
  clear KS hb hk hc hM
  go_enter Try.func36, Try.ntmps36
  go_upto_region 1 with fail
  rw [HM.out]
  by_cases h0 : e = 0
  · subst h0
    refine wp_region_quietC (C := RoomS M w.heap.size c) (by kernel_rfl) (by kernel_rfl) (HS.out _ (Below.refl _ _).drew) ?_
    repeat (first
      | go_big_quiet_skip
      | (go_big_quiet_want
         first
           | (refine quiet_run ?_
              apply Exists.intro
              refine ⟨fun w hw => ?_, ?_⟩
              · ((unfold RoomS at hw); go_split_ands; go_simp; (try with_reducible rfl))
              go_big_quiet_on
              try simp only [Act.put, List.setIfInBounds_toArray, List.set_cons_zero, List.set_cons_succ])
           | (apply Exists.intro
              refine ⟨fun w hw => ?_, ?_⟩
              · (unfold Oper.quietAt; go_simp; first | (with_reducible exact HZ.out _ hw) | (with_reducible exact HG.out _ hw))
              go_big_quiet_on
              try simp only [Act.put, List.setIfInBounds_toArray, List.set_cons_zero, List.set_cons_succ])))
    refine wpQuiet_nil ?_
    intro W hW
    have HW : Sd (Below w.heap.size w W) := ⟨beyond HB.out hW.1⟩
    go_wp2_with fail
    go_ret
    exact ⟨rfl, HW.out⟩
  · have ht : (e == 0) = false := by simp [h0]
    clear h0
    refine wp_region_quietC (C := RoomS M w.heap.size c) (by kernel_rfl) (by kernel_rfl) (HS.out _ (Below.refl _ _).drew) ?_
    repeat (first
      | go_big_quiet_skip
      | (go_big_quiet_want
         first
           | (refine quiet_run ?_
              apply Exists.intro
              refine ⟨fun w hw => ?_, ?_⟩
              · ((unfold RoomS at hw); go_split_ands; go_simp; (try with_reducible rfl))
              go_big_quiet_on
              try simp only [Act.put, List.setIfInBounds_toArray, List.set_cons_zero, List.set_cons_succ])
           | (apply Exists.intro
              refine ⟨fun w hw => ?_, ?_⟩
              · (unfold Oper.quietAt; go_simp; first | (with_reducible exact HZ.out _ hw) | (with_reducible exact HG.out _ hw))
              go_big_quiet_on
              try simp only [Act.put, List.setIfInBounds_toArray, List.set_cons_zero, List.set_cons_succ])))
    refine wpQuiet_nil ?_
    intro W hW
    have HW : Sd (Below w.heap.size w W) := ⟨beyond HB.out hW.1⟩
    go_wp2_with fail
    go_ret
    exact ⟨rfl, HW.out⟩
theorem eqVx (hit : Bool) (id act : Int) (W : World) : (binOp .eql 36 (.agg #[.bool hit, .int .i64 id, .int .i64 act]) (.agg #[.bool hit, .int .i64 id, .int .i64 act])).run Try.prog W = .ok (.bool true) W := by
  go_simp
theorem eqSx (a b c d e : Int) (W : World) : (binOp .eql 38 (.agg #[.int .i64 a, .int .i64 b, .int .i64 c, .int .i64 d, .int .i64 e]) (.agg #[.int .i64 a, .int .i64 b, .int .i64 c, .int .i64 d, .int .i64 e])).run Try.prog W = .ok (.bool true) W := by
  go_simp
theorem guardSt (a b c d e a' b' c' d' e' : Value) (x y : Operand) (W : World) : (eqGuard .eql 38 x y (.agg #[a, b, c, d, e]) (.agg #[a', b', c', d', e'])).run Try.prog W = .ok () W := by kernel_rfl
end Go.Proofs.Ytljliopmphaoeaa

namespace Go.Proofs.Ytljliopmphaoeaa
open Go Go.RowKit Go.Proofs.Ytljliopmphaoeaa.Q
/-- what asked has laid -/
structure AskedI (w : World) (c : Cfg) (h : Hdr) (W : World) : Prop where
  below : Below w.heap.size w W
  kind : Blk W w.heap.size #[.func (.func 33) #[] #[], .func (.func 34) #[] #[], .int .i64 0, .func (.func 13) #[] #[]] 70
  cfg : Blk W (w.heap.size + 1) #[.int .i64 c.max, .int .i64 c.dflt, .int .i64 c.prune, .int .i64 c.grid, .int .i64 c.tuple, .int .i64 c.binth, .int .i64 c.depth] 24
  hdr : Blk W (w.heap.size + 1 + 1) #[.int .u32 h.src, .int .u32 h.dst, .int .u16 h.sp, .int .u16 h.dp, .int .u8 h.pr] 28
theorem AskedI.more {w W W' : World} {c : Cfg} {h : Hdr} (i : AskedI w c h W) (hb : Below W.heap.size W W') : AskedI w c h W' := ⟨beyond i.below hb, i.kind.below hb i.kind.lt, i.cfg.below hb i.cfg.lt, i.hdr.below hb i.hdr.lt⟩
set_option maxHeartbeats 4000000 in
set_option maxRecDepth 100000 in
theorem asked_any {E : Nat} {c : Cfg} {P : World → (Nat → Prop) → List Rul → Prop} {room : List Rul → Int} (K : EngK (.pointer (some ⟨E, 0, none⟩)) c P room) {w : World} {N : Nat → Prop} {rs : List Rul} (hP : P w N rs) (h : Hdr) (hh : h.Wf) (A : Option Addr) (cap : Nat) (hR : RulsAt w A rs) :
    Calls Try.prog 42 #[.agg kindC, .iface 31 (.pointer (some ⟨E, 0, none⟩)), .agg #[.int .i64 c.max, .int .i64 c.dflt, .int .i64 c.prune, .int .i64 c.grid, .int .i64 c.tuple, .int .i64 c.binth, .int .i64 c.depth], .slice A rs.length cap, .agg #[.int .u32 h.src, .int .u32 h.dst, .int .u16 h.sp, .int .u16 h.dp, .int .u8 h.pr]] w fun e w' => e = .returned (.bool true) ∧ Below w.heap.size w w' := by
  unfold kindC
  obtain ⟨hw, hl⟩ := K.ok hP
  obtain ⟨s0, s1, s2, s3, s4, t0, t1, t2, t3, ka, ks, kf⟩ := K.ask hP h hh
  have KM := refMatch_any rs A cap c.dflt h hh hw (by omega)
  obtain ⟨hit, id, act, hm, _⟩ := match_shape rs c.dflt h
  rw [hm] at ka kf KM
  obtain ⟨M, hM⟩ : ∃ M, ((w.alloc (.cells #[.func (.func 33) #[] #[], .func (.func 34) #[] #[], .int .i64 0, .func (.func 13) #[] #[]] 70)).alloc (.cells #[.int .i64 c.max, .int .i64 c.dflt, .int .i64 c.prune, .int .i64 c.grid, .int .i64 c.tuple, .int .i64 c.binth, .int .i64 c.depth] 24)).alloc (.cells #[.int .u32 h.src, .int .u32 h.dst, .int .u16 h.sp, .int .u16 h.dp, .int .u8 h.pr] 28) = M := ⟨_, rfl⟩
  have hi : AskedI w c h M := by
    rw [← hM]
    exact ⟨below_alloc (below_alloc (below_alloc (Below.refl _ _) _) _) _, ((Blk.new w _ _).alloc _).alloc _, (blkN (X := w.alloc _) (N := w.heap.size + 1) (by simp) _ _).alloc _, blkN (X := (w.alloc _).alloc _) (N := w.heap.size + 1 + 1) (by simp) _ _⟩
  have HI := Sd.mk hi
  have HM := Sd.mk hM
  have HR := Sd.mk hR
  have KA := Sd.mk ka
  have KS := Sd.mk ks
  have KF := Sd.mk kf
  have HMT := Sd.mk (KM M (hR.below hi.below))
  have kc := hi.cfg
  have kh := hi.hdr
  have c1 := kc.cell (i := 1) rfl
  obtain ⟨b0, b1, b2, b3, b4⟩ := show M.cell? ⟨w.heap.size + 1 + 1, 0, none⟩ = some (.int .u32 h.src) ∧ M.cell? ⟨w.heap.size + 1 + 1, 1, none⟩ = some (.int .u32 h.dst) ∧ M.cell? ⟨w.heap.size + 1 + 1, 2, none⟩ = some (.int .u16 h.sp) ∧ M.cell? ⟨w.heap.size + 1 + 1, 3, none⟩ = some (.int .u16 h.dp) ∧ M.cell? ⟨w.heap.size + 1 + 1, 4, none⟩ = some (.int .u8 h.pr) from ⟨kh.cell (i := 0) rfl, kh.cell (i := 1) rfl, kh.cell (i := 2) rfl, kh.cell (i := 3) rfl, kh.cell (i := 4) rfl⟩
  clear hi hM hR ka ks kf KM hm kc kh hw hP K
  go_enter Try.func42, Try.ntmps42
  go_upto_region 1 with fail
  rw [HM.out]
  clear HM
  go_wp2_with fail
  refine HMT.out.mono ?_
  rintro x w1 ⟨i0, rfl, hb1⟩
  have HI1 := Sd.mk (HI.out.more hb1)
  clear b0 b1 b2 b3 b4 c1 hb1 HMT
  go_upto_region 2 with fail
  obtain ⟨W2, hW2⟩ : ∃ W2, w1.alloc (.cells #[.bool hit, .int .i64 id, .int .i64 act] 36) = W2 := ⟨_, rfl⟩
  have x2 : Blk W2 w1.heap.size #[.bool hit, .int .i64 id, .int .i64 act] 36 := by rw [← hW2]; exact Blk.new _ _ _
  have hi2 : AskedI w c h W2 := by rw [← hW2]; exact HI1.out.more (below_alloc (Below.refl _ _) _)
  try rw [hW2]
  generalize w1.heap.size = P1 at x2 ⊢
  have X2 := Sd.mk x2
  have HI2 := Sd.mk hi2
  have kh := hi2.hdr
  obtain ⟨b0, b1, b2, b3, b4⟩ := show W2.cell? ⟨w.heap.size + 1 + 1, 0, none⟩ = some (.int .u32 h.src) ∧ W2.cell? ⟨w.heap.size + 1 + 1, 1, none⟩ = some (.int .u32 h.dst) ∧ W2.cell? ⟨w.heap.size + 1 + 1, 2, none⟩ = some (.int .u16 h.sp) ∧ W2.cell? ⟨w.heap.size + 1 + 1, 3, none⟩ = some (.int .u16 h.dp) ∧ W2.cell? ⟨w.heap.size + 1 + 1, 4, none⟩ = some (.int .u8 h.pr) from ⟨kh.cell (i := 0) rfl, kh.cell (i := 1) rfl, kh.cell (i := 2) rfl, kh.cell (i := 3) rfl, kh.cell (i := 4) rfl⟩
  clear hW2 x2 hi2 kh
  go_wp2_with fail
  refine (KA.out _ HI2.out.below).mono ?_
  rintro x w3 ⟨rfl, hb3⟩
  clear b0 b1 b2 b3 b4
  go_upto_region 3 with fail
  obtain ⟨W4, hW4⟩ : ∃ W4, (w3.alloc (.cells #[.bool hit, .int .i64 id, .int .i64 act] 36)).alloc (.cells #[.int .i64 s0, .int .i64 s1, .int .i64 s2, .int .i64 s3, .int .i64 s4] 38) = W4 := ⟨_, rfl⟩
  have hb4 : Below W2.heap.size W2 W4 := by rw [← hW4]; exact below_alloc (below_alloc hb3 _) _
  have X3 : Sd (Blk W4 w3.heap.size #[.bool hit, .int .i64 id, .int .i64 act] 36) := ⟨by rw [← hW4]; exact (Blk.new _ _ _).alloc _⟩
  have X4 : Sd (Blk W4 (w3.heap.size + 1) #[.int .i64 s0, .int .i64 s1, .int .i64 s2, .int .i64 s3, .int .i64 s4] 38) := ⟨by rw [← hW4]; exact blkN (by simp) _ _⟩
  have HI4 := Sd.mk (HI2.out.more hb4)
  have X2' := Sd.mk (X2.out.below hb4 X2.out.lt)
  try rw [hW4]
  generalize w3.heap.size = P2 at X3 X4 ⊢
  clear hW4 hb3 hb4 X2
  go_wp2_with fail
  refine (KS.out _ HI4.out.below).mono ?_
  rintro x w5 ⟨rfl, hb5⟩
  go_upto_region 4 with fail
  obtain ⟨W6, hW6⟩ : ∃ W6, w5.alloc (.cells #[.int .i64 t0, .int .i64 t1, .int .i64 t2, .int .i64 t3] 43) = W6 := ⟨_, rfl⟩
  have hb6 : Below W4.heap.size W4 W6 := by rw [← hW6]; exact below_alloc hb5 _
  have X5 : Sd (Blk W6 w5.heap.size #[.int .i64 t0, .int .i64 t1, .int .i64 t2, .int .i64 t3] 43) := ⟨by rw [← hW6]; exact Blk.new _ _ _⟩
  have hi6 := HI4.out.more hb6
  have X2'' := Sd.mk (X2'.out.below hb6 X2'.out.lt)
  have X3' := Sd.mk (X3.out.below hb6 X3.out.lt)
  have X4' := Sd.mk (X4.out.below hb6 X4.out.lt)
  try rw [hW6]
  generalize w5.heap.size = P3 at X5 ⊢
  have HI6 := Sd.mk hi6
  have kh := hi6.hdr
  obtain ⟨b0, b1, b2, b3, b4⟩ := show W6.cell? ⟨w.heap.size + 1 + 1, 0, none⟩ = some (.int .u32 h.src) ∧ W6.cell? ⟨w.heap.size + 1 + 1, 1, none⟩ = some (.int .u32 h.dst) ∧ W6.cell? ⟨w.heap.size + 1 + 1, 2, none⟩ = some (.int .u16 h.sp) ∧ W6.cell? ⟨w.heap.size + 1 + 1, 3, none⟩ = some (.int .u16 h.dp) ∧ W6.cell? ⟨w.heap.size + 1 + 1, 4, none⟩ = some (.int .u8 h.pr) from ⟨kh.cell (i := 0) rfl, kh.cell (i := 1) rfl, kh.cell (i := 2) rfl, kh.cell (i := 3) rfl, kh.cell (i := 4) rfl⟩
  clear hW6 hb5 hb6 kh hi6 X2' X3 X4
  go_wp2_with fail
  refine (KA.out _ HI6.out.below).mono ?_
  rintro x w7 ⟨rfl, hb7⟩
  clear b0 b1 b2 b3 b4
  go_upto_region 5 with fail
  obtain ⟨W8, hW8⟩ : ∃ W8, (w7.alloc (.cells #[.bool hit, .int .i64 id, .int .i64 act] 36)).alloc (.cells #[.int .i64 s0, .int .i64 s1, .int .i64 s2, .int .i64 s3, .int .i64 s4] 38) = W8 := ⟨_, rfl⟩
  have hb8 : Below W6.heap.size W6 W8 := by rw [← hW8]; exact below_alloc (below_alloc hb7 _) _
  have x6 : Blk W8 w7.heap.size #[.bool hit, .int .i64 id, .int .i64 act] 36 := by rw [← hW8]; exact (Blk.new _ _ _).alloc _
  have x7 : Blk W8 (w7.heap.size + 1) #[.int .i64 s0, .int .i64 s1, .int .i64 s2, .int .i64 s3, .int .i64 s4] 38 := by rw [← hW8]; exact blkN (by simp) _ _
  have hi8 := HI6.out.more hb8
  have x2 := X2''.out.below hb8 X2''.out.lt
  have x3 := X3'.out.below hb8 X3'.out.lt
  have x4 := X4'.out.below hb8 X4'.out.lt
  have x5 := X5.out.below hb8 X5.out.lt
  try rw [hW8]
  generalize w7.heap.size = P4 at x6 x7 ⊢
  have HI8 := Sd.mk hi8
  have HF := Sd.mk (KF.out W8 A cap (HR.out.below hi8.below))
  have kh := hi8.hdr
  have kc := hi8.cfg
  obtain ⟨b0, b1, b2, b3, b4⟩ := show W8.cell? ⟨w.heap.size + 1 + 1, 0, none⟩ = some (.int .u32 h.src) ∧ W8.cell? ⟨w.heap.size + 1 + 1, 1, none⟩ = some (.int .u32 h.dst) ∧ W8.cell? ⟨w.heap.size + 1 + 1, 2, none⟩ = some (.int .u16 h.sp) ∧ W8.cell? ⟨w.heap.size + 1 + 1, 3, none⟩ = some (.int .u16 h.dp) ∧ W8.cell? ⟨w.heap.size + 1 + 1, 4, none⟩ = some (.int .u8 h.pr) from ⟨kh.cell (i := 0) rfl, kh.cell (i := 1) rfl, kh.cell (i := 2) rfl, kh.cell (i := 3) rfl, kh.cell (i := 4) rfl⟩
  obtain ⟨c0, c1, c2, c3, c4, c5, c6⟩ := show W8.cell? ⟨w.heap.size + 1, 0, none⟩ = some (.int .i64 c.max) ∧ W8.cell? ⟨w.heap.size + 1, 1, none⟩ = some (.int .i64 c.dflt) ∧ W8.cell? ⟨w.heap.size + 1, 2, none⟩ = some (.int .i64 c.prune) ∧ W8.cell? ⟨w.heap.size + 1, 3, none⟩ = some (.int .i64 c.grid) ∧ W8.cell? ⟨w.heap.size + 1, 4, none⟩ = some (.int .i64 c.tuple) ∧ W8.cell? ⟨w.heap.size + 1, 5, none⟩ = some (.int .i64 c.binth) ∧ W8.cell? ⟨w.heap.size + 1, 6, none⟩ = some (.int .i64 c.depth) from ⟨kc.cell (i := 0) rfl, kc.cell (i := 1) rfl, kc.cell (i := 2) rfl, kc.cell (i := 3) rfl, kc.cell (i := 4) rfl, kc.cell (i := 5) rfl, kc.cell (i := 6) rfl⟩
  have k3 := hi8.kind.cell (i := 3) rfl
  have d0 := x2.cell (i := 0) rfl
  have d1 := x2.cell (i := 1) rfl
  have d2 := x2.cell (i := 2) rfl
  have d3 := x3.cell (i := 0) rfl
  have d4 := x3.cell (i := 1) rfl
  have d5 := x3.cell (i := 2) rfl
  have d6 := x4.cell (i := 0) rfl
  have d7 := x4.cell (i := 1) rfl
  have d8 := x4.cell (i := 2) rfl
  have d9 := x4.cell (i := 3) rfl
  have d10 := x4.cell (i := 4) rfl
  have d11 := x5.cell (i := 0) rfl
  have d12 := x5.cell (i := 1) rfl
  have d13 := x5.cell (i := 2) rfl
  have d14 := x5.cell (i := 3) rfl
  have d15 := x6.cell (i := 0) rfl
  have d16 := x6.cell (i := 1) rfl
  have d17 := x6.cell (i := 2) rfl
  have d18 := x7.cell (i := 0) rfl
  have d19 := x7.cell (i := 1) rfl
  have d20 := x7.cell (i := 2) rfl
  have d21 := x7.cell (i := 3) rfl
  have d22 := x7.cell (i := 4) rfl
  have hqv := eqVx hit id act
  have hqs := eqSx s0 s1 s2 s3 s4
  have hgv := guardV
  have hgs := guardSt
  clear hW8 hb7 hb8 kh kc hi8 x2 x3 x4 x5 x6 x7
  go_wp2_with fail
  refine HF.out.mono ?_
  rintro x w9 ⟨rfl, hb9⟩
  have HZ := Sd.mk (beyond HI8.out.below hb9)
  clear hb9 b0 b1 b2 b3 b4 c0 c1 c2 c3 c4 c5 c6 k3 hqv hqs hgv hgs d0 d1 d2 d3 d4 d5 d6 d7 d8 d9 d10 d11 d12 d13 d14 d15 d16 d17 d18 d19 d20 d21 d22
  go_wp2_with fail
  go_ret
  exact ⟨rfl, HZ.out⟩
end Go.Proofs.Ytljliopmphaoeaa

namespace Go.Proofs.Ytljliopmphaoeaa
open Go Go.RowKit Go.Proofs.Ytljliopmphaoeaa.Q
/-- the engine's part -/
structure PlayE (P : World → (Nat → Prop) → List Rul → Prop) (wB : World) (B : Nat) (c : Cfg) (N : Nat → Prop) (rs : List Rul) (W : World) : Prop where
  below : Below wB.heap.size wB W
  eng : P W N rs
  low : ∀ k, N k → wB.heap.size ≤ k ∧ k ≠ B ∧ k ≠ B + 1
  hB : wB.heap.size ≤ B
  kind : Blk W B #[.func (.func 33) #[] #[], .func (.func 34) #[] #[], .int .i64 0, .func (.func 13) #[] #[]] 70
  cfg : Blk W (B + 1) #[.int .i64 c.max, .int .i64 c.dflt, .int .i64 c.prune, .int .i64 c.grid, .int .i64 c.tuple, .int .i64 c.binth, .int .i64 c.depth] 24
/-- the list's part -/
structure PlayL (N : Nat → Prop) (rs : List Rul) (A : Option Addr) (cap : Nat) (W : World) : Prop where
  lst : RulsAt W A rs
  le : rs.length ≤ cap
  nil : A = none → cap = 0
  out : ∀ a, A = some a → ¬ N a.block ∧ a.block < W.heap.size
section
variable {E : Nat} {c : Cfg} {P : World → (Nat → Prop) → List Rul → Prop} {room : List Rul → Int} {wB : World} {B : Nat} {N N' : Nat → Prop} {rs rs' : List Rul} {W W' : World} {A : Option Addr} {cap : Nat}
theorem PlayE.more (K : EngK (.pointer (some ⟨E, 0, none⟩)) c P room) (h : PlayE P wB B c N rs W) (hb : Below W.heap.size W W') : PlayE P wB B c N rs W' :=
  ⟨beyond h.below hb, K.below h.eng hb, h.low, h.hB, h.kind.below hb h.kind.lt, h.cfg.below hb h.cfg.lt⟩
theorem PlayE.chg (h : PlayE P wB B c N rs W) (hc : Chg P W N rs' W') : ∃ N', PlayE P wB B c N' rs' W' ∧ (∀ k, N' k → N k ∨ W.heap.size ≤ k) ∧ Only W W' N := by
  obtain ⟨ho, N', h1, h2⟩ := hc
  have hk := h.kind.lt
  have hcf := h.cfg.lt
  refine ⟨N', ⟨h.below.trans (ho.below _ h.below.size (fun k hk => (h.low k hk).1)), h1, fun k hk' => ?_, h.hB, h.kind.only ho (fun hn => (h.low _ hn).2.1 rfl), h.cfg.only ho (fun hn => (h.low _ hn).2.2 rfl)⟩, h2, ho⟩
  have hs := h.below.size
  rcases h2 k hk' with h3 | h3
  · exact h.low k h3
  · refine ⟨by omega, by omega, by omega⟩
theorem PlayE.back (K : EngK (.pointer (some ⟨E, 0, none⟩)) c P room) (h : PlayE P wB B c N rs W) {g : Nat} {cs : Array Value} (ho : Only W W' (fun k => k = g)) (hg : wB.heap.size ≤ g) (h1 : g ≠ B) (h2 : g ≠ B + 1) (h3 : ¬ N g) (h4 : Blk W g cs 60) (h5 : cs.size ≠ 1) : PlayE P wB B c N rs W' :=
  ⟨h.below.trans (ho.below _ h.below.size (fun k hk => by omega)), K.frame h.eng ho (fun k _ hk => by subst hk; exact ⟨h3, cs, h4, h5⟩), h.low, h.hB, h.kind.only ho (fun e => h1 e.symm), h.cfg.only ho (fun e => h2 e.symm)⟩
theorem PlayL.more (h : PlayL N rs A cap W) (hb : Below W.heap.size W W') : PlayL N rs A cap W' :=
  ⟨h.lst.below hb, h.le, h.nil, fun a ha => ⟨(h.out a ha).1, Nat.lt_of_lt_of_le (h.out a ha).2 hb.size⟩⟩
theorem PlayL.chg (h : PlayL N rs A cap W) (ho : Only W W' N) (hN : ∀ k, N' k → N k ∨ W.heap.size ≤ k) : PlayL N' rs A cap W' :=
  ⟨h.lst.only ho (fun a ha => (h.out a ha).1), h.le, h.nil, fun a ha => ⟨fun hn => by
    rcases hN _ hn with h1 | h1
    · exact (h.out a ha).1 h1
    · have := (h.out a ha).2; omega, Nat.lt_of_lt_of_le (h.out a ha).2 ho.size⟩⟩
theorem PlayL.back (h : PlayL N rs A cap W) {g : Nat} (ho : Only W W' (fun k => k = g)) (hg : ∀ a, A = some a → a.block ≠ g) : PlayL N rs A cap W' :=
  ⟨h.lst.only ho hg, h.le, h.nil, fun a ha => ⟨(h.out a ha).1, Nat.lt_of_lt_of_le (h.out a ha).2 ho.size⟩⟩
/-- a list of its own, laid behind the engine -/
theorem PlayL.new {v : Value} {base : Nat} (h : OwnR W base v rs) (hN : ∀ k, N k → k < base) : ∃ A cap, v = .slice A rs.length cap ∧ PlayL N rs A cap W := by
  rcases h.2 with ⟨h1, h2⟩ | ⟨g, cp, cur, h1, h2, h3, h4, h5⟩
  · refine ⟨none, 0, by rw [h1, h2], ⟨?_, by omega, fun _ => rfl, fun a ha => by cases ha⟩⟩
    have : rs = [] := List.length_eq_zero_iff.1 h2
    subst this
    exact ⟨fun k hk => absurd hk (by simp)⟩
  · subst h1
    refine ⟨some ⟨g, 0, none⟩, cp, rfl, ⟨h.ruls, h4, (fun h => by cases h), fun a ha => ?_⟩⟩
    injection ha with ha
    subst ha
    exact ⟨fun hn => by have := hN _ hn; show False; have h2' : base ≤ g := h2; simp only at this; omega, (Array.getElem?_eq_some_iff.1 h3).1⟩
/-- what the switch leaves -/
def SwI (P : World → (Nat → Prop) → List Rul → Prop) (wB : World) (B : Nat) (c : Cfg) (rs : List Rul) (A : Option Addr) (cap : Nat) (m : Value) (e : Int) (W : World) : Prop :=
  ∃ N' rs', PlayE P wB B c N' rs' W ∧ (e = 0 → ∃ A' cap', m = .slice A' rs'.length cap' ∧ PlayL N' rs' A' cap' W) ∧ (e ≠ 0 → rs' = rs ∧ PlayL N' rs A cap W)
end
theorem insE_zero (c : Cfg) (rs : List Rul) (p : Int) (r : Rul) : insE c (fun _ => 0) rs p r = insI c rs p r := by
  unfold insE
  split
  · rfl
  · rename_i h; simp at h; exact h.symm
theorem setE_zero (c : Cfg) (ls : List Rul) : setE c (fun _ => 0) ls = setI c ls := by
  unfold setE
  split
  · rfl
  · rename_i h; simp at h; exact h.symm
set_option maxRecDepth 100000 in
/-- a call of an engine is read whole -/
theorem load_op {ops : Array Oper} {rest : List Oper} {o : Oper} {a : Act} {w : World} {Q : Exit → Act → World → Prop} (hgd : o.guard = none) (x : Operand) (ho : o.op = .load 75 x) (v : OpV)
    (g off : Nat) (hx : a.eval x = .pointer (some ⟨g, off, none⟩)) (hc : ∀ i u, (opC v)[i]? = some u → w.cell? ⟨g, off + i, none⟩ = some u)
    (h : wpList Try.prog ops Q rest (a.put o.dst (.agg #[.int .i64 v.kind, .int .i64 v.place, .int .i64 v.id, .int .i64 v.rule.id, .int .u32 v.rule.src.a, .int .i64 v.rule.src.n, .int .u32 v.rule.dst.a, .int .i64 v.rule.dst.n, .int .u16 v.rule.sp.lo, .int .u16 v.rule.sp.hi, .int .u16 v.rule.dp.lo, .int .u16 v.rule.dp.hi, .int .u8 v.rule.pr.v, .int .u8 v.rule.pr.c, .int .i64 v.rule.act, .int .u32 v.head.src, .int .u32 v.head.dst, .int .u16 v.head.sp, .int .u16 v.head.dp, .int .u8 v.head.pr, .slice v.la v.list.length v.lcap])) w) : wpList Try.prog ops Q (o :: rest) a w :=
  wpList_load_mid hgd 75 x ho g off hx (opC v).toList _ (fun j u hj => hc j u (by simpa using hj)) Try.underlying75 rfl (by show _ = some 21; kernel_rfl) h
set_option maxRecDepth 100000 in
/-- a call of an engine is stored into a new variable -/
theorem store_op {ops : Array Oper} {rest : List Oper} {o : Oper} {a : Act} {w : World} {Q : Exit → Act → World → Prop} (hgd : o.guard = none) (x y : Operand) (ho : o.op = .store 75 x y) (v : OpV)
    (g : Nat) (hx : a.eval x = .pointer (some ⟨g, 0, none⟩)) (hy : a.eval y = .agg #[.int .i64 v.kind, .int .i64 v.place, .int .i64 v.id, .int .i64 v.rule.id, .int .u32 v.rule.src.a, .int .i64 v.rule.src.n, .int .u32 v.rule.dst.a, .int .i64 v.rule.dst.n, .int .u16 v.rule.sp.lo, .int .u16 v.rule.sp.hi, .int .u16 v.rule.dp.lo, .int .u16 v.rule.dp.hi, .int .u8 v.rule.pr.v, .int .u8 v.rule.pr.c, .int .i64 v.rule.act, .int .u32 v.head.src, .int .u32 v.head.dst, .int .u16 v.head.sp, .int .u16 v.head.dp, .int .u8 v.head.pr, .slice v.la v.list.length v.lcap]) (Z : Array Value) (hg : Blk w g Z 75) (hZ : Z.size = 21)
    (h : ∀ w', Blk w' g (opC v) 75 → Only w w' (fun k => k = g) → wpList Try.prog ops Q rest (a.put o.dst undef) w') : wpList Try.prog ops Q (o :: rest) a w := by
  have hg' : w.heap[g]? = some (.cells Z.toList.toArray 75 (0, 0)) := by simpa [Blk] using hg
  refine wpList_store_at hgd 75 x y ho g 0 (opC v) hx hy 75 Z.toList hg' (by show _ = some 21; kernel_rfl) (by show 0 + 21 ≤ _; rw [Array.length_toList, hZ]; omega) ?_ ?_
  · intro u hu
    unfold opC at hu
    simp only [List.mem_cons, List.not_mem_nil, or_false] at hu
    rcases hu with h | h | h | h | h | h | h | h | h | h | h | h | h | h | h | h | h | h | h | h | h <;> rw [h] <;> rfl
  · rw [splice_whole _ _ (by rw [Array.length_toList, hZ]; rfl), Array.toArray_toList]
    refine h _ ?_ ⟨rfl, rfl, rfl, by simp, fun k _ hne => setRow_other _ _ _ _ hne⟩
    exact setRow_heap w g _ _ _ _ hg'
end Go.Proofs.Ytljliopmphaoeaa

namespace Go.Proofs.Ytljliopmphaoeaa
open Go Go.RowKit Go.Proofs.Ytljliopmphaoeaa.Q
section
variable {c : Cfg} {N : Nat → Prop} {rs : List Rul} {W : World} {A : Option Addr} {cap : Nat}
theorem playInsert (h : PlayL N rs A cap W) (hN : ∀ k, N k → k < W.heap.size) (p : Int) (r : Rul) (hw : r.Wf) (hl : rs.length ≤ 64) :
    Calls Try.prog 35 #[.slice A rs.length cap, .int .i64 c.max, .int .i64 p, .agg #[.int .i64 r.id, .int .u32 r.src.a, .int .i64 r.src.n, .int .u32 r.dst.a, .int .i64 r.dst.n, .int .u16 r.sp.lo, .int .u16 r.sp.hi, .int .u16 r.dp.lo, .int .u16 r.dp.hi, .int .u8 r.pr.v, .int .u8 r.pr.c, .int .i64 r.act]] W fun x w' => ∃ m, x = .returned (.tuple #[m, .int .i64 (insE c (fun _ => 0) rs p r)]) ∧ Below W.heap.size W w' ∧ (insE c (fun _ => 0) rs p r = 0 → ∃ A' cap', m = .slice A' (insL c (fun _ => 0) rs p r).length cap' ∧ PlayL N (insL c (fun _ => 0) rs p r) A' cap' w') := by
  have e1 := insE_zero c rs p r
  rw [e1]
  by_cases hn : insI c rs p r = 0
  · obtain ⟨_, ⟨k, rfl, hk⟩, _⟩ := insI_ok hn
    rw [hn]
    refine (refInsert_ok c rs A cap k r W hw (by omega) h.le h.nil h.lst hk hn).mono fun x w' ⟨v', h1, h2, h3⟩ => ?_
    have e2 : insL c (fun _ => 0) rs k r = rs.take k ++ r :: rs.drop k := by unfold insL; rw [e1, if_pos hn, Int.toNat_natCast]
    obtain ⟨A', cap', h4, h5⟩ := PlayL.new h2 hN
    exact ⟨v', h1, h3, fun _ => ⟨A', cap', by rw [e2]; exact h4, by rw [e2]; exact h5⟩⟩
  · exact (refInsert_no c rs A cap p r W hw (by omega) h.lst hn).mono fun x w' ⟨h1, h2⟩ => ⟨_, h1, h2, fun h0 => absurd h0 hn⟩
theorem playDelete (h : PlayL N rs A cap W) (hN : ∀ k, N k → k < W.heap.size) (id : Int) (hl : rs.length ≤ 64) :
    Calls Try.prog 37 #[.slice A rs.length cap, .int .i64 id] W fun x w' => ∃ m, x = .returned (.tuple #[m, .int .i64 (delE rs id)]) ∧ Below W.heap.size W w' ∧ (delE rs id = 0 → ∃ A' cap', m = .slice A' (delL rs id).length cap' ∧ PlayL N (delL rs id) A' cap' w') := by
  rcases findI_cases rs id with hf | ⟨k, hk, hf⟩
  · rw [delE, delL, if_pos hf, if_pos hf]
    exact (refDelete_no rs A cap id W (by omega) h.lst hf).mono fun x w' ⟨h1, h2⟩ => ⟨_, h1, h2 ▸ Below.refl _ _, fun h0 => by cases h0⟩
  · have hf' : findI rs id ≠ -1 := by omega
    rw [delE, delL, if_neg hf', if_neg hf', hf, Int.toNat_natCast]
    refine (refDelete_ok rs A cap id k W (by omega) h.le h.nil h.lst hk hf).mono fun x w' ⟨v', h1, h2, h3⟩ => ?_
    obtain ⟨A', cap', h4, h5⟩ := PlayL.new h2 hN
    exact ⟨v', h1, h3, fun _ => ⟨A', cap', h4, h5⟩⟩
end
end Go.Proofs.Ytljliopmphaoeaa
