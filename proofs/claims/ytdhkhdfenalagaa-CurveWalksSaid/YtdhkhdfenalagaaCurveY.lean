/- The iterator quarters: what it gives, round by round, to whatever body. -/
import Derived.RangeFuncNested
import Derived.RangeFuncCalls
import Derived.Shelf.Abstract
import Derived.Shelf.RegionOpen
import Derived.OwnWalkIn
import Derived.TacticsInMore
import Derived.LoopNIn
import Derived.LoopIn
import Derived.Test.YtdhkhdfenalagaaRangeN
import Derived.Test.YtdhkhdfenalagaaStillIn
import Derived.Test.YtdhkhdfenalagaaCurveT
import Derived.Test.YtdhkhdfenalagaaCurveQ
namespace Go.Proofs.Ytdhkhdfenalagaa
open Go.RowKit Go.Shelf Go.Proofs.Ytdhkhdfenalagaa.Fl Go.Proofs.Ytdhkhdfenalagaa.Hil
attribute [local go_sem] Oper.semAt_some

set_option maxHeartbeats 400000 in
theorem quarters_any (n p : Int) (w : World) :
    Calls Try.prog 27 #[.int .i64 n, .int .i64 p] w fun e w' => e = .returned (.func (.func 38) #[] #[.pointer (some ⟨w.heap.size, 0, none⟩), .pointer (some ⟨w.heap.size + 1, 0, none⟩)]) ∧ w' = (w.alloc (.cells #[.int .i64 n] 3)).alloc (.cells #[.int .i64 p] 3) := by
  go_enter Try.func27, Try.ntmps27
  go_wp2
  go_ret
  exact ⟨rfl, rfl⟩

/-- the iterator's cells ahead of the round k -/
def QIt (Bn Bp : Nat) (N p k : Nat) (W : World) : Prop :=
  W.cell? ⟨Bn, 0, none⟩ = some (.int .i64 (N : Nat)) ∧ W.cell? ⟨Bp, 0, none⟩ = some (.int .i64 ((p : Int) / 4 ^ k)) ∧ W.frozen? ⟨Bp, 0, none⟩ = false
def QSt (Bp : Nat) (W1 W2 : World) : Prop := ∃ v, W2 = W1.setCell ⟨Bp, 0, none⟩ v
def qval (p k : Nat) : Array Value := #[.int .i64 ((p : Int) / 4 ^ k % 4)]

theorem div4_succ (p k : Nat) : (p : Int) / 4 ^ k / 4 = (p : Int) / 4 ^ (k + 1) := by
  rw [Int.pow_succ, Int.ediv_ediv_of_nonneg (Int.pow_nonneg (by omega))]
theorem div4_bd (p k : Nat) (hp : p < 4294967296) : 0 ≤ (p : Int) / 4 ^ k ∧ (p : Int) / 4 ^ k < 4294967296 := by
  have hp4 : (0 : Int) < 4 ^ k := Int.pow_pos (by omega)
  have h1 : 0 ≤ (p : Int) / 4 ^ k := Int.ediv_nonneg (by omega) (Int.le_of_lt hp4)
  have h2 : (p : Int) / 4 ^ k ≤ p := Int.ediv_le_self _ (by omega)
  exact ⟨h1, by omega⟩

set_option maxHeartbeats 2000000 in
set_option maxRecDepth 100000 in
theorem quarters_in (F : Fence) (n : Nat) (hF : F.fn 38) (hro : F.round = none) (hn : 1 ≤ n) (l Bn Bp N p : Nat) (hne : Bn ≠ Bp) (hN : N ≤ 16) (hp : p < 4294967296) (J : Nat → World → Prop) (W : World)
    (hY : ∀ k W1, k < N → J k W1 → QIt Bn Bp N p k W1 → YieldAt F (n - 1) Try.prog l (qval p k) W1 fun e W' => e = .returned (.bool true) ∧ J (k + 1) W' ∧ QIt Bn Bp N p k W')
    (hS : ∀ k W1 W2, J k W1 → QSt Bp W1 W2 → J k W2) (h0 : J 0 W) (hI : QIt Bn Bp N p 0 W) :
    CallsIn F n Try.prog 38 #[.func (.yield l) #[] #[], .pointer (some ⟨Bn, 0, none⟩), .pointer (some ⟨Bp, 0, none⟩)] W fun e W' => (∃ v, e = .returned v) ∧ J N W' := by
  refine callsIn_of_wp Try.func38 rfl hF ?_ hro
  simp only [Try.ntmps38, List.size_toArray, List.length_cons, List.length_nil, Nat.reduceAdd, Nat.reduceSub, Array.replicate_succ, Array.replicate_zero, List.push_toArray, List.append_toArray, List.nil_append, List.cons_append]
  have hI' := Sd.mk hI
  obtain ⟨hc1, _, _⟩ := hI
  gi_wp2
  gi_loopw [5] (fun i wr => ∃ k : Nat, k ≤ N ∧ i = .int .i64 k ∧ J k wr ∧ QIt Bn Bp N p k wr) (fun i _ => 16 - (intOf i).toNat)
  case atStart => exact ⟨0, by omega, rfl, h0, hI'.out⟩
  case round =>
    obtain ⟨k, hk, rfl, hJ, hi⟩ := hrel
    clear hc1
    by_cases hlt : k < N
    · obtain ⟨fn, tmps, assign, body, hy, hR⟩ := hY k wr hlt hJ hi
      have HI := Sd.mk hi
      obtain ⟨_, hc, _⟩ := hi
      have ha := and3 ((p : Int) / 4 ^ k)
      have hbd := div4_bd p k hp
      unfold qval at hy
      gi_wp2
      refine hR.mono ?_
      rintro e W3 ⟨rfl, hJ3, hI3⟩
      obtain ⟨hn3, hc3, hf3⟩ := hI3
      have hz := Sd.mk (div4_succ p k)
      clear hc ha hy
      gi_wp2
      go_roundw
      case rel =>
        refine ⟨k + 1, by omega, by go_num, hS _ _ _ hJ3 ⟨_, rfl⟩, ?_, ?_, ?_⟩
        · exact (World.cell?_setCell_other _ _ _ _ (fun h => hne (congrArg Addr.block h).symm)).trans hn3
        · rw [hz.out]; exact World.cell?_setCell_same' _ _ _ (by rw [hc3]; rfl)
        · rw [World.frozen?_setCell]; exact hf3
      case measure => simp [intOf]; omega
    · have e : k = N := by omega
      subst e
      gi_wp2
      go_end0
      exact ⟨⟨_, rfl⟩, hJ⟩


section
variable {P : Program} (w : World) (a : Addr)
theorem run_store_complex (x y : Nat) (m) : (store a (.complex .f64 x y) m).run P w = stored P w a (.complex .f64 x y) m := run_store P w a _ m rfl
theorem run_store_float (x : Nat) (m) : (store a (.float .f64 x) m).run P w = stored P w a (.float .f64 x) m := run_store P w a _ m rfl
end
attribute [local go_sem] run_store_complex run_store_float

/-- z and side ahead of the round k, in their cells -/
def AtI (w : World) (p k : Nat) (W : World) : Prop :=
  W.cell? ⟨w.heap.size, 0, none⟩ = some (.complex .f64 (fl (hat k (p % 4 ^ k)).1) (fl (hat k (p % 4 ^ k)).2)) ∧ W.frozen? ⟨w.heap.size, 0, none⟩ = false ∧
  W.cell? ⟨w.heap.size + 1, 0, none⟩ = some (.float .f64 (fl (2 ^ k))) ∧ W.frozen? ⟨w.heap.size + 1, 0, none⟩ = false ∧ Below w.heap.size w W
/-- the frame in a round that has been handed v -/
def atFr (N p : Nat) (w : World) (v : Value) : Array Value := #[Value.int IntKind.i64 (N : Int), Value.int IntKind.i64 (p : Int), undef, undef, Value.complex FloatKind.f64 0 0, Value.int IntKind.i64 0, Value.int IntKind.i64 0, Value.pointer (some { block := w.heap.size, off := 0 }), Value.pointer (some { block := w.heap.size + 1, off := 0 }), v, Value.int IntKind.i64 (N : Int), Value.int IntKind.i64 0, Value.int IntKind.i64 0, Value.bool false, undef, Value.int IntKind.i64 (p : Int), Value.bool (decide ((p : Int) < 0)), Value.bool (decide ((p : Int) < 0)), Value.int IntKind.i64 (p : Int), Value.int IntKind.i64 (N : Int), Value.int IntKind.i64 (2 * (N : Int)), Value.int IntKind.i64 (wrap64 (2 ^ (2 * N))), Value.bool (decide (wrap64 (2 ^ (2 * N)) ≤ (p : Int))), Value.bool (decide ((p : Int) < 0) || decide (wrap64 (2 ^ (2 * N)) ≤ (p : Int))), Value.int IntKind.i64 (N : Int), Value.int IntKind.i64 (p : Int), Value.func (Fn.func 38) #[] #[Value.pointer (some { block := w.heap.size + 1 + 1, off := 0 }), Value.pointer (some { block := w.heap.size + 1 + 1 + 1, off := 0 })], v, undef, undef, undef, undef, undef, undef, undef, undef, undef, undef, undef, undef, undef, undef, undef, undef, undef, undef, undef, undef, undef, undef, undef, undef, undef, undef, undef, undef, undef, undef, undef, undef]
/-- the world ahead of the loop -/
def atW0 (N p : Nat) (w : World) : World := (((w.alloc (.cells #[.complex .f64 0 0] 22)).alloc (.cells #[.float .f64 4607182418800017408] 33)).alloc (.cells #[.int .i64 N] 3)).alloc (.cells #[.int .i64 p] 3)
theorem atW0_size (N p : Nat) (w : World) : (atW0 N p w).heap.size = w.heap.size + 4 := by simp [atW0]
theorem atW0_below (N p : Nat) (w : World) : Below w.heap.size w (atW0 N p w) :=
  ((((Below.refl _ w).alloc (Nat.le_refl _) _).alloc (by simp) _).alloc (by simp; omega) _).alloc (by simp; omega) _
theorem atI_below {w : World} {p k : Nat} {W W' : World} (h : AtI w p k W) (hb : Below (w.heap.size + 2) W W') : AtI w p k W' := by
  obtain ⟨h1, h2, h3, h4, h5⟩ := h
  refine ⟨(hb.cell (p := ⟨w.heap.size, 0, none⟩) (by simp)).trans h1, (hb.frozen (p := ⟨w.heap.size, 0, none⟩) (by simp)).trans h2, (hb.cell (p := ⟨w.heap.size + 1, 0, none⟩) (by simp)).trans h3, (hb.frozen (p := ⟨w.heap.size + 1, 0, none⟩) (by simp)).trans h4, h5.trans (hb.mono (by omega))⟩

theorem below_put {n₀ : Nat} (W : World) (l : Nat) (o o' : Obj) (hl : n₀ ≤ l) (h : W.heap[l]? = some o) : Below n₀ W (W.putObj l o') :=
  (Below.refl n₀ W).grown (grownBy_putObj' W l o') (by have := (Array.getElem?_eq_some_iff.1 h).1; omega) (fun k e => by cases e; omega)
theorem qIt_below {B N p k : Nat} {W W' : World} (h : QIt (B + 2) (B + 3) N p k W) (hb : Below (B + 4) W W') : QIt (B + 2) (B + 3) N p k W' := by
  obtain ⟨h1, h2, h3⟩ := h
  exact ⟨(hb.cell (p := ⟨B + 2, 0, none⟩) (by simp)).trans h1, (hb.cell (p := ⟨B + 3, 0, none⟩) (by simp)).trans h2, (hb.frozen (p := ⟨B + 3, 0, none⟩) (by simp)).trans h3⟩
theorem qIt_set {B N p k : Nat} {W : World} (h : QIt (B + 2) (B + 3) N p k W) (a : Addr) (ha : a.block < B + 2) (v : Value) : QIt (B + 2) (B + 3) N p k (W.setCell a v) := by
  obtain ⟨h1, h2, h3⟩ := h
  refine ⟨?_, ?_, ?_⟩
  · rw [World.cell?_setCell_other _ _ _ _ (fun e => by rw [e] at ha; simp at ha)]; exact h1
  · rw [World.cell?_setCell_other _ _ _ _ (fun e => by rw [e] at ha; simp at ha)]; exact h2
  · rw [World.frozen?_setCell]; exact h3
/-- the round's own stores: z, then side -/
theorem atI_next {w : World} {p k : Nat} {W : World} (h : AtI w p k W) (zx zy : Nat) (hz : (zx, zy) = (fl (hat (k + 1) (p % 4 ^ (k + 1))).1, fl (hat (k + 1) (p % 4 ^ (k + 1))).2)) :
    AtI w p (k + 1) ((W.setCell ⟨w.heap.size, 0, none⟩ (.complex .f64 zx zy)).setCell ⟨w.heap.size + 1, 0, none⟩ (.float .f64 (fl (2 ^ (k + 1))))) := by
  obtain ⟨h1, h2, h3, h4, h5⟩ := h
  cases hz
  refine ⟨?_, ?_, ?_, ?_, (h5.setCell (p := ⟨w.heap.size, 0, none⟩) (Nat.le_refl _) _).setCell (p := ⟨w.heap.size + 1, 0, none⟩) (by simp) _⟩
  · rw [World.cell?_setCell_other _ _ _ _ (by simp)]; exact World.cell?_setCell_same' _ _ _ (by rw [h1]; rfl)
  · rw [World.frozen?_setCell, World.frozen?_setCell]; exact h2
  · exact World.cell?_setCell_same' _ _ _ (by rw [World.cell?_setCell_other _ _ _ _ (by simp), h3]; rfl)
  · rw [World.frozen?_setCell, World.frozen?_setCell]; exact h4

/-- the next point, by the quarter's digit -/
theorem hat_next (p k : Nat) : hat (k + 1) (p % 4 ^ (k + 1)) =
    if p / 4 ^ k % 4 = 0 then ((hat k (p % 4 ^ k)).2, (hat k (p % 4 ^ k)).1)
    else if p / 4 ^ k % 4 = 1 then ((hat k (p % 4 ^ k)).1, (hat k (p % 4 ^ k)).2 + 2 ^ k)
    else if p / 4 ^ k % 4 = 2 then ((hat k (p % 4 ^ k)).1 + 2 ^ k, (hat k (p % 4 ^ k)).2 + 2 ^ k)
    else (2 * 2 ^ k - 1 - (hat k (p % 4 ^ k)).2, 2 ^ k - 1 - (hat k (p % 4 ^ k)).1) := by
  obtain ⟨e1, e2⟩ := hat_digit k p
  conv => lhs; unfold hat
  rw [e1, e2]
/-- sums and differences of points, exactly -/
theorem cadd_fl (x y a b : Int) (hx : x.natAbs < 4503599627370496) (hy : y.natAbs < 4503599627370496) (ha : a.natAbs < 4503599627370496) (hb : b.natAbs < 4503599627370496) (t : TypeId) (w : World) :
    (binOp .add t (.complex .f64 (fl x) (fl y)) (.complex .f64 (fl a) (fl b))).run Try.prog w = .ok (.complex .f64 (fl (x + a)) (fl (y + b))) w := by
  refine run_complex_sum w .add (.inl rfl) t .f64 _ _ _ _ _ _ ?_
  have g1 : floatBits .add .f64 (fl x) (fl a) = some (fl (x + a)) := add_fl x a (by omega) (by omega) (by omega)
  have g2 : floatBits .add .f64 (fl y) (fl b) = some (fl (y + b)) := add_fl y b (by omega) (by omega) (by omega)
  unfold cSumBits
  rw [g1]; simp only [Option.bind_some]; rw [g2]; rfl
theorem csub_fl (x y a b : Int) (hx : x.natAbs < 4503599627370496) (hy : y.natAbs < 4503599627370496) (ha : a.natAbs < 4503599627370496) (hb : b.natAbs < 4503599627370496) (x0 : 0 ≤ x) (y0 : 0 ≤ y) (t : TypeId) (w : World) :
    (binOp .sub t (.complex .f64 (fl x) (fl y)) (.complex .f64 (fl a) (fl b))).run Try.prog w = .ok (.complex .f64 (fl (x - a)) (fl (y - b))) w := by
  refine run_complex_sum w .sub (.inr rfl) t .f64 _ _ _ _ _ _ ?_
  have g1 : floatBits .sub .f64 (fl x) (fl a) = some (fl (x - a)) := sub_fl x a (by omega) (by omega) (by omega) x0
  have g2 : floatBits .sub .f64 (fl y) (fl b) = some (fl (y - b)) := sub_fl y b (by omega) (by omega) (by omega) y0
  unfold cSumBits
  rw [g1]; simp only [Option.bind_some]; rw [g2]; rfl
theorem run_mul_fl (a b : Int) (ha : a.natAbs < 4503599627370496) (hb : b.natAbs < 4503599627370496) (h : (a * b).natAbs < 4503599627370496) (a0 : 0 ≤ a) (b0 : 0 ≤ b) (t : TypeId) (w : World) :
    (binOp .mul t (.float .f64 (fl a)) (.float .f64 (fl b))).run Try.prog w = .ok (.float .f64 (fl (a * b))) w :=
  run_float_arith w .mul t .f64 _ _ _ (mul_fl a b (by omega) (by omega) (by omega) a0 b0)
theorem run_sub_fl (a b : Int) (ha : a.natAbs < 4503599627370496) (hb : b.natAbs < 4503599627370496) (a0 : 0 ≤ a) (t : TypeId) (w : World) :
    (binOp .sub t (.float .f64 (fl a)) (.float .f64 (fl b))).run Try.prog w = .ok (.float .f64 (fl (a - b))) w :=
  run_float_arith w .sub t .f64 _ _ _ (sub_fl a b (by omega) (by omega) (by omega) a0)

theorem fl_one : fl (2 ^ 0) = 4607182418800017408 := by decide
theorem atW0_cells (N p : Nat) (w : World) : (atW0 N p w).heap[w.heap.size]? = some (.cells #[.complex .f64 0 0] 22) ∧ (atW0 N p w).heap[w.heap.size + 1]? = some (.cells #[.float .f64 4607182418800017408] 33) ∧
    (atW0 N p w).heap[w.heap.size + 2]? = some (.cells #[.int .i64 N] 3) ∧ (atW0 N p w).heap[w.heap.size + 3]? = some (.cells #[.int .i64 p] 3) := by
  have n1 := World.alloc_heap_new w (.cells #[.complex .f64 0 0] 22)
  have n2 := World.alloc_heap_new (w.alloc (.cells #[.complex .f64 0 0] 22)) (.cells #[.float .f64 4607182418800017408] 33)
  have n3 := World.alloc_heap_new ((w.alloc (.cells #[.complex .f64 0 0] 22)).alloc (.cells #[.float .f64 4607182418800017408] 33)) (.cells #[.int .i64 N] 3)
  have n4 := World.alloc_heap_new (((w.alloc (.cells #[.complex .f64 0 0] 22)).alloc (.cells #[.float .f64 4607182418800017408] 33)).alloc (.cells #[.int .i64 N] 3)) (.cells #[.int .i64 p] 3)
  simp only [World.size_alloc] at n2 n3 n4
  unfold atW0
  refine ⟨?_, ?_, ?_, n4⟩
  · exact (Below.heap_alloc _ _ _ (by first | (simp; done) | (simp; omega))).trans ((Below.heap_alloc _ _ _ (by first | (simp; done) | (simp; omega))).trans ((Below.heap_alloc _ _ _ (by simp)).trans n1))
  · exact (Below.heap_alloc _ _ _ (by first | (simp; done) | (simp; omega))).trans ((Below.heap_alloc _ _ _ (by simp)).trans n2)
  · exact (Below.heap_alloc _ _ _ (by simp)).trans n3
theorem atI_start (N p : Nat) (w : World) : AtI w p 0 (atW0 N p w) := by
  obtain ⟨n1, n2, _, _⟩ := atW0_cells N p w
  refine ⟨?_, ?_, ?_, ?_, atW0_below N p w⟩
  · simp [World.cell?, n1, hat, fl0]
  · simp [World.frozen?, n1]
  · rw [fl_one]; simp [World.cell?, n2]
  · simp [World.frozen?, n2]
theorem qIt_start (N p : Nat) (w : World) : QIt (w.heap.size + 2) (w.heap.size + 3) N p 0 (atW0 N p w) := by
  obtain ⟨_, _, n3, n4⟩ := atW0_cells N p w
  refine ⟨?_, ?_, ?_⟩
  · simp [World.cell?, n3]
  · simp [World.cell?, n4]
  · simp [World.frozen?, n4]

set_option maxHeartbeats 4000000 in
set_option maxRecDepth 100000 in
theorem At_ok (N p : Nat) (h0 : 1 ≤ N) (h1 : N ≤ 16) (h : p < 4 ^ N) (w : World) :
    Calls Try.prog 10 #[.int .i64 N, .int .i64 p] w fun e w' => e = .returned (.tuple #[.complex .f64 (fl (hat N p).1) (fl (hat N p).2), .int .i64 0]) ∧ Below w.heap.size w w' := by
  obtain ⟨b1, b2, b3⟩ := pow4_bd N (by omega) (by omega)
  have hlt : (p : Int) < wrap64 ((2 : Int) ^ (2 * N)) := by
    have e : (2 * (N : Int)).toNat = 2 * N := by omega
    rw [← e, b1, pow4_i N (by omega)]; simp only [Int.toNat_natCast]; exact Int.ofNat_lt.2 h
  have hp32 : p < 4294967296 := by
    have h2 : 4 ^ N ≤ 4 ^ 16 := Nat.pow_le_pow_right (by omega) h1
    have e2 : (4 : Nat) ^ 16 = 4294967296 := rfl
    omega
  clear b1 b2 b3
  have f26 : Fence.wide.fn 26 := trivial
  have f27 : Fence.wide.fn 27 := trivial
  have f28 : Fence.wide.fn 28 := trivial
  refine (callsIn_wide (n := 6)).1 ?_
  refine callsIn_of_wp_marks Try.func10 rfl trivial ?_ rfl
  simp only [Try.ntmps10, List.size_toArray, List.length_cons, List.length_nil, Nat.reduceAdd, Nat.reduceSub, Array.replicate_succ, Array.replicate_zero, List.push_toArray, List.append_toArray, List.nil_append, List.cons_append]
  gi_wp2_with (first | (gi_at_call 26; refine (callsIn_wide.2 (order_ok N (by omega) (by omega) _)).mono ?_; rintro e w' ⟨rfl, rfl⟩) | (gi_at_call 27; refine (callsIn_wide.2 (quarters_any N p _)).mono ?_; rintro e w' ⟨rfl, rfl⟩))
  have hW0 : (((w.alloc (.cells #[.complex .f64 0 0] 22)).alloc (.cells #[.float .f64 4607182418800017408] 33)).alloc (.cells #[.int .i64 N] 3)).alloc (.cells #[.int .i64 p] 3) = atW0 N p w := rfl
  rw [hW0]
  have hsz := atW0_size N p w
  have hbl := atW0_below N p w
  refine wpIn_rangeFunc_count (F := Fence.wide) rfl (by omega) (gf := 38) (lb := #[.pointer (some ⟨w.heap.size + 1 + 1, 0, none⟩), .pointer (some ⟨w.heap.size + 1 + 1 + 1, 0, none⟩)]) rfl trivial (enters_of Try.func38 (by kernel_rfl) rfl)
    (qval p) N (fun _ => rfl) (QIt (w.heap.size + 2) (w.heap.size + 3) N p) (QSt (w.heap.size + 3)) ?seq ?itput ?stkeep (AtI w p) ?ist ?iput ?start
    (fun k => { tmps := atFr N p w (.int .i64 ((p : Int) / 4 ^ k % 4)), defers := [] }) ?assign ?body ?done
  case seq =>
    intro l J W hY hS hJ hI
    exact quarters_in Fence.wide _ trivial rfl (by omega) l (w.heap.size + 2) (w.heap.size + 3) N p (by omega) h1 hp32 J W hY hS hJ hI
  case itput =>
    intro k W l o o' hl ho hc hi
    exact qIt_below hi (below_put W l o o' (by omega) ho)
  case stkeep =>
    rintro W1 W2 ⟨v, rfl⟩ l o ho hc
    exact (KeepsOthers.setCell W1 _ v).same l o ho hc
  case ist =>
    rintro k W1 W2 hi ⟨v, rfl⟩
    exact atI_below hi ((Below.refl _ _).setCell (p := ⟨w.heap.size + 3, 0, none⟩) (by simp) _)
  case iput =>
    intro k W l o o' hl ho hc hi
    exact atI_below hi (below_put W l o o' (by omega) ho)
  case start =>
    intro o o'
    have hb2 : Below (atW0 N p w).heap.size (atW0 N p w) (((atW0 N p w).alloc o).alloc o') := ((Below.refl _ _).alloc (Nat.le_refl _) _).alloc (by simp) _
    rw [hsz] at hb2
    exact ⟨atI_below (atI_start N p w) (hb2.mono (by omega)), qIt_below (qIt_start N p w) hb2⟩
  case assign =>
    intro l k W K hK
    unfold atFr at hK
    unfold qval
    gi_wp2
    exact hK
  case body =>
    intro l k W hk hI hIt
    have hd : ((p / 4 ^ k % 4 : Nat) : Int) = (p : Int) / 4 ^ k % 4 := by push_cast; rfl
    have hn := hat_next p k
    have hpow : (2 : Int) ^ k ≤ 32768 := (pow_facts k (by omega)).1
    have hpos := pow2_pos k
    have bd := hat_bd k (p % 4 ^ k) (Nat.mod_lt _ (pow4_pos k))
    have HI := Sd.mk hI
    obtain ⟨hc1, hf1, hc2, hf2, _⟩ := hI
    have hmul : ∀ (t : TypeId) (w : World), (binOp .mul t (.float .f64 (fl (2 ^ k))) (.float .f64 4611686018427387904)).run Try.prog w = .ok (.float .f64 (fl (2 ^ (k + 1)))) w := by
      intro t w
      have := run_mul_fl (2 ^ k) 2 (by omega) (by omega) (by omega) (by omega) (by omega) t w
      rw [fl2, show (2 : Int) ^ k * 2 = 2 ^ (k + 1) from by rw [pow2_succ]; omega] at this
      exact this
    have hfin : ∀ zx zy, (zx, zy) = (fl (hat (k + 1) (p % 4 ^ (k + 1))).1, fl (hat (k + 1) (p % 4 ^ (k + 1))).2) → Sd (KeepsOthers W ((W.setCell ⟨w.heap.size, 0, none⟩ (.complex .f64 zx zy)).setCell ⟨w.heap.size + 1, 0, none⟩ (.float .f64 (fl (2 ^ (k + 1))))) ∧
        AtI w p (k + 1) ((W.setCell ⟨w.heap.size, 0, none⟩ (.complex .f64 zx zy)).setCell ⟨w.heap.size + 1, 0, none⟩ (.float .f64 (fl (2 ^ (k + 1))))) ∧
        QIt (w.heap.size + 2) (w.heap.size + 3) N p k ((W.setCell ⟨w.heap.size, 0, none⟩ (.complex .f64 zx zy)).setCell ⟨w.heap.size + 1, 0, none⟩ (.float .f64 (fl (2 ^ (k + 1)))))) := fun zx zy hz =>
      ⟨(KeepsOthers.setCell _ _ _).trans (KeepsOthers.setCell _ _ _), atI_next HI.out zx zy hz, qIt_set (qIt_set hIt _ (by simp) _) _ (by simp) _⟩
    clear hIt HI
    rcases (show p / 4 ^ k % 4 = 0 ∨ p / 4 ^ k % 4 = 1 ∨ p / 4 ^ k % 4 = 2 ∨ p / 4 ^ k % 4 = 3 from by generalize p / 4 ^ k = q; omega) with e | e | e | e
    · rw [e] at hd
      rw [← hd]
      rw [if_pos e] at hn
      have HF := hfin (fl (hat k (p % 4 ^ k)).2) (fl (hat k (p % 4 ^ k)).1) (by rw [hn])
      clear hfin hn e hd
      generalize hat k (p % 4 ^ k) = xy at *
      obtain ⟨x, y⟩ := xy
      unfold atFr
      gi_wp2_with (gi_at_call 28; refine (CallsIn.inRound l (callsIn_wide.2 (flip_any _ _ _))).mono ?_; rintro e w' ⟨rfl, rfl⟩)
      exact HF.out
    · rw [e] at hd
      rw [← hd]
      rw [if_neg (by rw [e]; decide), if_pos e] at hn
      generalize hat k (p % 4 ^ k) = xy at *
      obtain ⟨x, y⟩ := xy
      simp only at hn bd hc1
      have HF := hfin (fl x) (fl (y + 2 ^ k)) (by rw [hn])
      have hadd : ∀ (t : TypeId) (w : World), (binOp .add t (.complex .f64 (fl x) (fl y)) (.complex .f64 0 (fl (2 ^ k)))).run Try.prog w = .ok (.complex .f64 (fl x) (fl (y + 2 ^ k))) w := by
        intro t w
        have := cadd_fl x y 0 (2 ^ k) (by omega) (by omega) (by omega) (by omega) t w
        rw [Int.add_zero] at this
        exact this
      clear hfin hn e hd
      unfold atFr
      gi_wp2
      exact HF.out
    · rw [e] at hd
      rw [← hd]
      rw [if_neg (by rw [e]; decide), if_neg (by rw [e]; decide), if_pos e] at hn
      generalize hat k (p % 4 ^ k) = xy at *
      obtain ⟨x, y⟩ := xy
      simp only at hn bd hc1
      have HF := hfin (fl (x + 2 ^ k)) (fl (y + 2 ^ k)) (by rw [hn])
      have hadd := cadd_fl x y (2 ^ k) (2 ^ k) (by omega) (by omega) (by omega) (by omega)
      clear hfin hn e hd
      unfold atFr
      gi_wp2
      exact HF.out
    · rw [e] at hd
      rw [← hd]
      rw [if_neg (by rw [e]; decide), if_neg (by rw [e]; decide), if_neg (by rw [e]; decide)] at hn
      generalize hat k (p % 4 ^ k) = xy at *
      obtain ⟨x, y⟩ := xy
      simp only at hn bd hc1
      have HF := hfin (fl (2 * 2 ^ k - 1 - y)) (fl (2 ^ k - 1 - x)) (by rw [hn])
      have hm2 : ∀ (t : TypeId) (w : World), (binOp .mul t (.float .f64 4611686018427387904) (.float .f64 (fl (2 ^ k)))).run Try.prog w = .ok (.float .f64 (fl (2 * 2 ^ k))) w := run_mul_fl 2 (2 ^ k) (by omega) (by omega) (by omega) (by omega) (by omega)
      have hs1 : ∀ (t : TypeId) (w : World), (binOp .sub t (.float .f64 (fl (2 * 2 ^ k))) (.float .f64 4607182418800017408)).run Try.prog w = .ok (.float .f64 (fl (2 * 2 ^ k - 1))) w := run_sub_fl (2 * 2 ^ k) 1 (by omega) (by omega) (by omega)
      have hs2 : ∀ (t : TypeId) (w : World), (binOp .sub t (.float .f64 (fl (2 ^ k))) (.float .f64 4607182418800017408)).run Try.prog w = .ok (.float .f64 (fl (2 ^ k - 1))) w := run_sub_fl (2 ^ k) 1 (by omega) (by omega) (by omega)
      have hcs := csub_fl (2 * 2 ^ k - 1) (2 ^ k - 1) y x (by omega) (by omega) (by omega) (by omega) (by omega) (by omega)
      clear hfin hn e hd
      have hmix : Try.prog.follows .mixedOrders = true := by kernel_rfl
      unfold atFr
      gi_wp2_with (gi_at_call 28; refine (CallsIn.inRound l (callsIn_wide.2 (flip_any _ _ _))).mono ?_; rintro e w' ⟨rfl, rfl⟩)
      refine wpIn_round_still_tail 9 hmix (by kernel_rfl) (by kernel_rfl) ?_
      simp only [List.take_succ_cons, List.take_zero, List.drop_succ_cons, List.drop_zero]
      repeat (first | still_step | still_call ((flip_any _ _ _).mono (by rintro _ _ ⟨h1, h2⟩; exact ⟨h1, h2.symm⟩)))
      refine wpStill_nil ?_
      change wpList _ _ _ _ _ W.drew
      go_wp2
      refine ⟨by simp, ?_⟩
      gi_wp2
      exact ⟨HF.out.1.trans (KeepsOthers.drew _), atI_below HF.out.2.1 (Below.refl _ _).drew, qIt_below HF.out.2.2 (Below.refl _ _).drew⟩
  case done =>
    rintro D W hD hI hK
    have HI := Sd.mk hI
    obtain ⟨hc1, hf1, hc2, hf2, hbw⟩ := hI
    rw [Nat.mod_eq_of_lt h] at hc1
    have hBW := Sd.mk hbw
    clear hbw
    gi_wp2
    refine ⟨by simp, .inl ⟨_, _, rfl, run_takeDeferred hK, ?_⟩⟩
    exact ⟨_, results_tmp2 rfl _ _ _, rfl, hBW.out.trans (below_put W D _ _ (by omega) hK)⟩

end Go.Proofs.Ytdhkhdfenalagaa
