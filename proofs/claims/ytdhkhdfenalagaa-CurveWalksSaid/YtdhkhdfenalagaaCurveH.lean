/- The statement of the curve's walk. -/
import Derived.RangeFuncBox
import Derived.RangeFuncBound
import Derived.RangeFuncLeaves
import Derived.Test.YtdhkhdfenalagaaCurveG
namespace Go.Proofs.Ytdhkhdfenalagaa
open Go.RowKit Go.Shelf Go.Proofs.Ytdhkhdfenalagaa.Fl Go.Proofs.Ytdhkhdfenalagaa.Hil
attribute [local go_sem] Oper.semAt_some

theorem run_store_func {P : Program} (w : World) (a : Addr) (f : Fn) (x y : Array Value) (m) : (store a (.func f x y) m).run P w = stored P w a (.func f x y) m := run_store P w a _ m rfl
theorem run_equalIn_func {P : Program} (d : Nat) (t : TypeId) (w : World) (f : Fn) (x y : Array Value) {a b c} (h : P.underlying t = some (.func a b c)) : (Op.equalIn (d + 1) t (.func f x y) .nilFunc).run P w = .ok false w := by
  simp [Op.equalIn, run_underlying h]
theorem run_equal_func {P : Program} (t : TypeId) (w : World) (f : Fn) (x y : Array Value) {a b c} (h : P.underlying t = some (.func a b c)) : (Op.equal t (.func f x y) .nilFunc).run P w = .ok false w := run_equalIn_func 9999 t w f x y h
theorem run_eql_nilFunc (w : World) (f : Fn) (x y : Array Value) : (binOp .eql 43 (.func f x y) .nilFunc).run Try.prog w = .ok (.bool false) w := by
  simp only [binOp]
  simp [run_equal_func 43 w f x y Try.underlying43]
attribute [local go_sem] run_store_func run_eql_nilFunc

/-- the marks that loops over a function have left -/
def mark (D : Nat) : Deferred := { target := .collected D, args := #[] }
/-- the cells of the law, ahead of the loop and between its rounds -/
structure Cells (n E : Int) (B : Nat) (W : World) : Prop where
  o : Boxed W B 3 (.int .i64 n)
  e : Boxed W (B + 1) 3 (.int .i64 E)
  r : Boxed W (B + 2) 4 (.bool false)
  q : Boxed W (B + 3) 3 (.int .i64 n)
  s : Boxed W (B + 4) 43 (.func (.func 33) #[] #[.pointer (some ⟨B + 3, 0, none⟩)])
def W0 (n E : Int) (w : World) : World := ((((w.alloc (.cells #[.int .i64 n] 3)).alloc (.cells #[.int .i64 E] 3)).alloc (.cells #[.bool false] 4)).alloc (.cells #[.int .i64 n] 3)).alloc (.cells #[.func (.func 33) #[] #[.pointer (some ⟨w.heap.size + 3, 0, none⟩)]] 43)
theorem W0_cells (n E : Int) (w : World) : Cells n E w.heap.size (W0 n E w) ∧ Below w.heap.size w (W0 n E w) := by
  have b0 := Boxed.new w 3 (.int .i64 n)
  have b1 := Boxed.new (w.alloc (.cells #[.int .i64 n] 3)) 3 (.int .i64 E)
  have b2 := Boxed.new ((w.alloc (.cells #[.int .i64 n] 3)).alloc (.cells #[.int .i64 E] 3)) 4 (.bool false)
  have b3 := Boxed.new (((w.alloc (.cells #[.int .i64 n] 3)).alloc (.cells #[.int .i64 E] 3)).alloc (.cells #[.bool false] 4)) 3 (.int .i64 n)
  have b4 := Boxed.new ((((w.alloc (.cells #[.int .i64 n] 3)).alloc (.cells #[.int .i64 E] 3)).alloc (.cells #[.bool false] 4)).alloc (.cells #[.int .i64 n] 3)) 43 (.func (.func 33) #[] #[.pointer (some ⟨w.heap.size + 3, 0, none⟩)])
  simp only [World.size_alloc] at b1 b2 b3 b4
  exact ⟨⟨(((b0.alloc _).alloc _).alloc _).alloc _, ((b1.alloc _).alloc _).alloc _, (b2.alloc _).alloc _, b3.alloc _, b4⟩,
    (((((Below.refl _ w).alloc (Nat.le_refl _) _).alloc (by simp) _).alloc (by simp; omega) _).alloc (by simp; omega) _).alloc (by simp; omega) _⟩
/-- between two rounds of the outer loop -/
structure Good (n E : Int) (w : World) (Ds : List Nat) (W : World) : Prop where
  c : Cells n E w.heap.size W
  b : Below w.heap.size w W
  d : ∀ D ∈ Ds, w.heap.size + 5 ≤ D ∧ W.heap[D]? = some (.deferred (some []))
  u : Ds.Nodup

theorem Boxed.keep {L B : Nat} {W W' : World} {t : TypeId} {v : Value} (h : Boxed W B t v) (hb : Below L W W') (hL : B < L) : Boxed W' B t v := (hb.block B hL).trans h
theorem Good.keep {n E : Int} {w W W' : World} {Ds : List Nat} {L : Nat} (h : Good n E w Ds W) (hb : Below L W W') (hL : w.heap.size + 5 ≤ L) (hD : ∀ D ∈ Ds, D < L) : Good n E w Ds W' := by
  obtain ⟨⟨c0, c1, c2, c3, c4⟩, hw, hd, hu⟩ := h
  exact ⟨⟨Boxed.keep c0 hb (by omega), Boxed.keep c1 hb (by omega), Boxed.keep c2 hb (by omega), Boxed.keep c3 hb (by omega), Boxed.keep c4 hb (by omega)⟩, hw.trans (hb.mono (by omega)),
    fun D h => ⟨(hd D h).1, (hb.block D (hD D h)).trans (hd D h).2⟩, hu⟩
theorem Good.lt {n E : Int} {w W : World} {Ds : List Nat} (h : Good n E w Ds W) : w.heap.size + 5 ≤ W.heap.size ∧ ∀ D ∈ Ds, D < W.heap.size :=
  ⟨by have := h.c.s.lt; omega, fun D hD => (Array.getElem?_eq_some_iff.1 (h.d D hD).2).1⟩
theorem keeps_below {L : Nat} {V V' : World} (h : Below V.heap.size V V') : KeepsFrom L V V' := ⟨h.size, fun k _ _ hk _ => (h.block k (Array.getElem?_eq_some_iff.1 hk).1).trans hk⟩
theorem below_grown {L : Nat} {V V' : World} {row : Option Nat} (hg : V.grownBy V' row) (hL : L ≤ V.heap.size) (hr : ∀ r, row = some r → L ≤ r) : Below L V V' := (Below.refl L V).grown hg hL (fun k e => hr k e)

theorem wpt_bd (n : Int) (m : Nat) (h : m < cnt n) (x : Nat) : 0 ≤ (wpt n x).1 ∧ (wpt n x).1 < 65536 ∧ 0 ≤ (wpt n x).2 ∧ (wpt n x).2 < 65536 := by
  unfold cnt at h
  split at h
  · omega
  · have h1 := hat_bd n.toNat (x % 4 ^ n.toNat) (Nat.mod_lt _ (pow4_pos _))
    have h2 := pow16 n.toNat (by omega)
    unfold wpt
    omega
theorem order_ne (a b c d : Int) (ha : a.natAbs < 9007199254740992) (hb : b.natAbs < 9007199254740992) (hc : c.natAbs < 9007199254740992) (hd : d.natAbs < 9007199254740992) (h : ¬ (a = c ∧ b = d)) :
    (FloatKind.f64.format.order (fl a) (fl c) == some .eq && FloatKind.f64.format.order (fl b) (fl d) == some .eq) = false := by
  have e1 : FloatKind.f64.format.order (fl a) (fl c) = some (compare a c) := order_int (isInt_fl a ha) (isInt_fl c hc)
  have e2 : FloatKind.f64.format.order (fl b) (fl d) = some (compare b d) := order_int (isInt_fl b hb) (isInt_fl d hd)
  rw [e1, e2]
  cases hb : (some (compare a c) == some Ordering.eq && some (compare b d) == some Ordering.eq) with
  | false => rfl
  | true =>
    rw [Bool.and_eq_true] at hb
    exact absurd ⟨cmp_eq hb.1, cmp_eq hb.2⟩ h
theorem order_zero (a b : Int) (ha : a.natAbs < 9007199254740992) (hb : b.natAbs < 9007199254740992) (h : ¬ ((a, b) = ((0, 0) : Int × Int))) :
    (FloatKind.f64.format.order (fl a) 0 == some .eq && FloatKind.f64.format.order (fl b) 0 == some .eq) = false := by
  have := order_ne a b 0 0 ha hb (by simp) (by simp) (fun ⟨h1, h2⟩ => h (by rw [h1, h2]))
  rwa [fl0] at this
/-- ahead of each round of the outer loop -/
def Inv (n E e : Int) (w : World) (a' : Act) (W : World) : Prop := ∃ (k : Nat) (Ds : List Nat), k ≤ 2 ∧ Good n E w Ds W ∧ ∃ u7 u8 u9 u10 u11 u12 u13 u14 u15 u16 u17 u18 u19 u20 u21 u22 u23 u24 u25 u26 u27 u28 u29 u30 u31 u32 u33 u34 u35 u36 u37 u38 u39 u40 u41 u42 u43 u44 u45 u46 u47 u48 u49 u50 u51 u52 u53 u54 u55 u56 u57 u58 u59 u60 u61 u62 u63 u64 u65 u66 u67 u68 u69 u70 : Value, a' = { tmps := #[.int .i64 n, .int .i64 e, .pointer (some ⟨w.heap.size, 0, none⟩), .pointer (some ⟨w.heap.size + 1, 0, none⟩), .pointer (some ⟨w.heap.size + 2, 0, none⟩), .pointer (some ⟨w.heap.size + 4, 0, none⟩), .int .i64 k, u7, u8, u9, u10, u11, u12, u13, u14, u15, u16, u17, u18, u19, u20, u21, u22, u23, u24, u25, u26, u27, u28, u29, u30, u31, u32, u33, u34, u35, u36, u37, u38, u39, u40, u41, u42, u43, u44, u45, u46, u47, u48, u49, u50, u51, u52, u53, u54, u55, u56, u57, u58, u59, u60, u61, u62, u63, u64, u65, u66, u67, u68, u69, u70], defers := Ds.map mark }
theorem good_cons {n E : Int} {w W : World} {Ds : List Nat} {D : Nat} (h : Good n E w Ds W) (hD : w.heap.size + 5 ≤ D) (hn : D ∉ Ds) (hk : W.heap[D]? = some (.deferred (some []))) : Good n E w (D :: Ds) W :=
  ⟨h.c, h.b, fun X hX => by
    rcases List.mem_cons.1 hX with rfl | hX
    · exact ⟨hD, hk⟩
    · exact h.d X hX, List.nodup_cons.2 ⟨hn, h.u⟩⟩
/-- the way out of the function, past the marks -/
theorem leaves_all {w : World} (tmps : Array Value) : ∀ (Ds : List Nat) (W : World), Boxed W (w.heap.size + 2) 4 (.bool true) → Below w.heap.size w W → (∀ D ∈ Ds, w.heap.size + 5 ≤ D ∧ W.heap[D]? = some (.deferred (some []))) → Ds.Nodup →
    tmps[4]? = some (.pointer (some ⟨w.heap.size + 2, 0, none⟩)) →
    LeavesInM Fence.wide 10 Try.prog Try.f8 tmps (fun e' w' => e' = .returned (.bool true) ∧ Below w.heap.size w w') (Ds.map mark) .returning W
  | [], W, hr, hb, _, _, ht => by
    have hc := hr.cell
    refine ⟨.bool true, ?_, rfl, hb⟩
    simp [results, Try.results8, go_sem, hc, ht]
  | D :: Ds, W, hr, hb, hd, hu, ht => by
    have hD := hd D List.mem_cons_self
    have hlt := (Array.getElem?_eq_some_iff.1 hD.2).1
    have hB : Below (w.heap.size + 5) W (W.putObj D (.deferred none)) := (Below.refl _ W).grown (grownBy_putObj' W D _) (by omega) (fun k e => by cases e; omega)
    refine ⟨by simp, .inl ⟨D, _, rfl, run_takeDeferred hD.2, leaves_all tmps Ds _ (Boxed.keep hr hB (by omega)) (hb.trans (hB.mono (by omega))) (fun X hX => ⟨(hd X (List.mem_cons_of_mem _ hX)).1, ?_⟩) (List.nodup_cons.1 hu).2 ht⟩⟩
    have hne : X ≠ D := fun h => (List.nodup_cons.1 hu).1 (h ▸ hX)
    exact (World.putObj_heap_other hne).trans (hd X (List.mem_cons_of_mem _ hX)).2
/-- within the loop over the walk: m points have come -/
structure Mid (n E : Int) (w : World) (Ds : List Nat) (B1 : Nat) (m : Nat) (V : World) : Prop where
  g : Good n E w Ds V
  n : Boxed V B1 3 (.int .i64 m)
  s : B1 + 1 ≤ V.heap.size
  f : w.heap.size + 5 ≤ B1 ∧ ∀ D ∈ Ds, D < B1
theorem Mid.keep {n E : Int} {w V V' : World} {Ds : List Nat} {B1 m L : Nat} (h : Mid n E w Ds B1 m V) (hb : Below L V V') (hL : B1 + 1 ≤ L) : Mid n E w Ds B1 m V' :=
  ⟨h.g.keep hb (by have := h.f.1; omega) (fun D hD => by have := h.f.2 D hD; omega), Boxed.keep h.n hb hL, Nat.le_trans h.s hb.size, h.f⟩
theorem Mid.set {n E : Int} {w V : World} {Ds : List Nat} {B1 m : Nat} (h : Mid n E w Ds B1 m V) (m' : Nat) : Mid n E w Ds B1 m' (V.setCell ⟨B1, 0, none⟩ (.int .i64 m')) :=
  ⟨h.g.keep ((Below.refl B1 V).setCell (p := ⟨B1, 0, none⟩) (Nat.le_refl _) _) h.f.1 h.f.2, h.n.set _, by simpa using h.s, h.f⟩
theorem Mid.own {n E : Int} {w : World} {Ds : List Nat} {B1 L : Nat} (hL : B1 + 1 ≤ L) {β : Type} (f : β → Nat) : OwnFrom L (fun (s : β) V => Mid n E w Ds B1 (f s) V ∧ L ≤ V.heap.size) :=
  fun _ _ _ _ hs hg hr => ⟨hs.1.keep (below_grown hg hs.2 (fun r e => (hr r e).1)) hL, Nat.le_trans hs.2 hg.size⟩

set_option maxHeartbeats 4000000 in
set_option maxRecDepth 100000 in
theorem LawWalks_core (n e E : Int) (h1 : 1 ≤ E) (h2 : E ≤ 3000) (he : Sd (e < 0 ∧ wrap64 (1 + (wrap64 (-wrap64 (e + 1))).tmod 3000) = E) ∨ Sd (0 ≤ e ∧ 1 + e % 3000 = E)) (w : World) :
    Calls Try.prog 8 #[.int .i64 n, .int .i64 e] w fun e' w' => e' = .returned (.bool true) ∧ Below w.heap.size w w' := by
  have f1 : Fence.wide.fn 18 := trivial
  have f2 : Fence.wide.fn 11 := trivial
  have f3 : Fence.wide.fn 13 := trivial
  have f4 : Fence.wide.fn 12 := trivial
  refine (callsIn_wide (n := 10)).1 ?_
  refine callsIn_of_wp_marks Try.func8 rfl trivial ?_ rfl
  simp only [Try.ntmps8, List.size_toArray, List.length_cons, List.length_nil, Nat.reduceAdd, Nat.reduceSub, Array.replicate_succ, Array.replicate_zero, List.push_toArray, List.append_toArray, List.nil_append, List.cons_append]
  rcases he with he | he
  all_goals
    have hs := he.out.1
    gi_wp2_with (gi_at_call 18; refine (callsIn_wide.2 (Walk_any n _)).mono ?_; rintro e w' ⟨rfl, rfl⟩)
    rw [he.out.2]
    have hW := W0_cells n E w
    have hW0 : ((((w.alloc (.cells #[.int .i64 n] 3)).alloc (.cells #[.int .i64 E] 3)).alloc (.cells #[.bool false] 4)).alloc (.cells #[.int .i64 n] 3)).alloc (.cells #[.func (.func 33) #[] #[.pointer (some ⟨w.heap.size + 1 + 1 + 1, 0, none⟩)]] 43) = W0 n E w := rfl
    rw [hW0]
    clear hW0 hs he
    refine wpIn_loop (Inv n E e w) (fun a' _ => 2 - (intOf (a'.tmps.getD 6 undef)).toNat) ?start ?round
    case start =>
      unfold Inv
      refine ⟨0, [], by omega, ⟨hW.1, hW.2, (by simp), List.nodup_nil⟩, ?_⟩
      repeat apply Exists.intro
      rfl
    case round =>
      rintro a' W ⟨k, Ds, hk, hG, u7, u8, u9, u10, u11, u12, u13, u14, u15, u16, u17, u18, u19, u20, u21, u22, u23, u24, u25, u26, u27, u28, u29, u30, u31, u32, u33, u34, u35, u36, u37, u38, u39, u40, u41, u42, u43, u44, u45, u46, u47, u48, u49, u50, u51, u52, u53, u54, u55, u56, u57, u58, u59, u60, u61, u62, u63, u64, u65, u66, u67, u68, u69, u70, rfl⟩
      have HG := Sd.mk hG
      obtain ⟨⟨co, ce, cr, cq, cs⟩, hb, hd, hu⟩ := hG
      have c0 := co.cell
      have c1 := ce.cell
      have c2 := cr.cell
      have c2f := cr.frozen
      have c4 := cs.cell
      have l4 := cs.lt
      have l0 : w.heap.size < W.heap.size := by omega
      have l1 : w.heap.size + 1 < W.heap.size := by omega
      have l2 : w.heap.size + 2 < W.heap.size := by omega
      clear hb hd hu co ce cr cq cs
      by_cases hlt : k < 2
      · gi_wp2
        have hM0 : Mid n E w Ds W.heap.size 0 (W.alloc (.cells #[.int .i64 0] 3)) :=
          ⟨HG.out.keep (Below.refl _ _ |>.alloc (Nat.le_refl _) _) HG.out.lt.1 HG.out.lt.2, Boxed.new W _ _, by simp, HG.out.lt⟩
        have hsz : (W.alloc (.cells #[.int .i64 0] 3)).heap.size = W.heap.size + 1 := by simp
        have hq := hM0.g.c.q.cell
        generalize W.alloc (.cells #[.int .i64 0] 3) = W1 at *
        clear c0 c1 c2 c2f c4 l4 l0 l1 l2
        refine wpIn_rangeFunc_ownH rfl (by omega) (gf := 33) (lb := #[.pointer (some ⟨w.heap.size + 3, 0, none⟩)]) rfl trivial (enters_of Try.func33 (by kernel_rfl) rfl)
          (walk_stops 9 (by omega) (w.heap.size + 3) (w.heap.size + 5) n W1 (by omega) (by have := hM0.f.1; omega) hq) belowK_t (belowK_b (by have := hM0.f.1; omega)) (Below.refl _ _) (fun _ => rfl)
          (fun pre V => (Mid n E w Ds W.heap.size pre.length V ∧ W1.heap.size ≤ V.heap.size) ∧ (pre.length : Int) < E)
          (fun c pre V => ((c = .ret ∧ ¬ pre <+: List.range (cnt n)) ∨ (c = .exit 2 ∧ (pre.length : Int) = E ∧ Mid n E w Ds W.heap.size pre.length V)) ∧ W1.heap.size ≤ V.heap.size)
          (OwnFrom.and (Mid.own (by omega) _) (ownFrom_pure _ _))
          ?ix ⟨⟨hM0, Nat.le_refl _⟩, by simp; omega⟩
          (fun x a' _ => a' = { tmps := #[Value.int IntKind.i64 n, Value.int IntKind.i64 e, Value.pointer (some { block := w.heap.size, off := 0 }), Value.pointer (some { block := w.heap.size + 1, off := 0 }), Value.pointer (some { block := w.heap.size + 2, off := 0 }), Value.pointer (some { block := w.heap.size + 4, off := 0 }), Value.int IntKind.i64 ↑k, Value.pointer (some { block := W.heap.size, off := 0 }), .complex .f64 (fl (wpt n x).1) (fl (wpt n x).2), u9, u10, u11, u12, u13, u14, u15, u16, u17, u18, u19, u20, u21, u22, u23, u24, u25, Value.int IntKind.i64 ↑k, Value.bool true, u28, u29, Value.func (Fn.func 33) #[] #[Value.pointer (some { block := w.heap.size + 3, off := 0 })], .complex .f64 (fl (wpt n x).1) (fl (wpt n x).2), u32, u33, u34, u35, u36, u37, u38, u39, u40, u41, u42, u43, u44, u45, u46, u47, u48, u49, u50, u51, u52, u53, u54, u55, u56, u57, u58, u59, u60, u61, u62, u63, u64, u65, u66, u67, u68, u69, u70], defers := [] })
          (fun _ _ _ _ _ _ hs _ _ => hs) ?assign ?body ?done ?stop
        case ix => exact fun c pre V V' row hs hg hr => ⟨hs.1.imp id (fun ⟨h1, h2, h3⟩ => ⟨h1, h2, h3.keep (below_grown hg hs.2 (fun r e => (hr r e).1)) (by omega)⟩), Nat.le_trans hs.2 hg.size⟩
        case assign =>
          rintro l pre x V K hi hK
          unfold enc
          gi_wp2
          exact hK _ _ (KeepsFrom.refl _ _) (Below.refl _ _) hi rfl
        case body =>
          rintro l pre x a' V hl ⟨r, hr⟩ ⟨⟨hM, hs1⟩, hE⟩ rfl hlen
          have hmc : pre.length < cnt n := hlen
          obtain ⟨m, hm⟩ : ∃ m, pre.length = m := ⟨_, rfl⟩
          rw [hm] at hM hE hmc
          have HM := Sd.mk hM
          have c0 := hM.g.c.o.cell
          have c3 := hM.n.cell
          have l0 := hM.g.c.o.lt
          have l3 := hM.n.lt
          clear hM
          have CA := Sd.mk (rAt_any n m)
          rw [atC_in n m hmc] at CA
          simp only [ptV] at CA
          gi_wp2_with fail
          refine (CallsIn.inRound l (callsIn_wide.2 (CA.out _))).mono ?_
          rintro e1 V1 ⟨rfl, hb1⟩
          gi_wp2_with fail
          obtain ⟨d1, d2, d3, d4⟩ := wpt_bd n m hmc m
          obtain ⟨x1, x2, x3, x4⟩ := wpt_bd n m hmc x
          refine (CallsIn.inRound l (callsIn_wide.2 (number_any _ _ (by omega) (by omega) _))).mono ?_
          rintro e1 V2 ⟨rfl, hb2⟩
          have hbV : Below V.heap.size V V2 := (hb1.alloc hb1.size _).trans (hb2.mono (by have := hb1.size; simp; omega))
          have HM2 := Sd.mk (HM.out.keep hbV (by omega))
          have c32 := HM2.out.n.cell
          have f32 := HM2.out.n.frozen
          have l32 := HM2.out.n.lt
          have hne : ¬ (w.heap.size + 1 = W.heap.size) := by have := HG.out.lt.1; omega
          have c12 : V2.cell? ⟨w.heap.size + 1, 0, none⟩ = some (.int .i64 E) := HM2.out.g.c.e.cell
          have c12s : (V2.setCell ⟨W.heap.size, 0, none⟩ (.int .i64 ((m : Int) + 1))).cell? ⟨w.heap.size + 1, 0, none⟩ = some (.int .i64 E) := by
            rw [World.cell?_setCell_other _ _ _ _ (fun h => hne (congrArg Addr.block h).symm)]; exact c12
          by_cases heq : wpt n x = wpt n m
          · rw [heq]
            have o1 := fl_same (wpt n m).1 (by omega)
            have o2 := fl_same (wpt n m).2 (by omega)
            have hpl : (pre ++ [x]).length = m + 1 := by simp [hm]
            have hK3 : ∀ v, KeepsFrom W1.heap.size V (V2.setCell ⟨W.heap.size, 0, none⟩ v) := fun v => (keeps_below hbV).trans ((KeepsOthers.setCell _ _ _).from _)
            have hB3 : ∀ v, Below (w.heap.size + 5) V (V2.setCell ⟨W.heap.size, 0, none⟩ v) := fun v => (hbV.mono (by have := HG.out.lt.1; omega)).setCell (p := ⟨W.heap.size, 0, none⟩) HG.out.lt.1 _
            have hS3 : ∀ v, W1.heap.size ≤ (V2.setCell ⟨W.heap.size, 0, none⟩ v).heap.size := fun v => Nat.le_trans hs1 (hK3 v).size
            have HS := Sd.mk (And.intro hpl (And.intro hK3 (And.intro hB3 hS3)))
            clear hpl hK3 hB3 hS3
            by_cases hm2 : m + 1 = 2
            · obtain rfl : m = 1 := by omega
              have c42s : (V2.setCell ⟨W.heap.size, 0, none⟩ (.int .i64 2)).cell? ⟨w.heap.size + 4, 0, none⟩ = some (.func (.func 33) #[] #[.pointer (some ⟨w.heap.size + 3, 0, none⟩)]) := by
                rw [World.cell?_setCell_other _ _ _ _ (fun h => (show ¬ (w.heap.size + 4 = W.heap.size) by have := HG.out.lt.1; omega) (congrArg Addr.block h).symm)]; exact HM2.out.g.c.s.cell
              have hM3 : Mid n E w Ds W.heap.size 2 (V2.setCell ⟨W.heap.size, 0, none⟩ (.int .i64 2)) := HM2.out.set 2
              have HM3 := Sd.mk hM3
              clear hM3
              gi_wp2
              obtain ⟨hpl, hK3, hB3, hS3⟩ := HS.out
              have hM3 := HM3.out
              have hK3 := hK3 (.int .i64 2)
              have hB3 := hB3 (.int .i64 2)
              have hS3 := hS3 (.int .i64 2)
              generalize V2.setCell ⟨W.heap.size, 0, none⟩ (.int .i64 2) = V3 at *
              have hr3 : V3.heap[l]? = some (.loop r) := hK3.same l _ hl hr rfl
              have hq3 := hM3.g.c.q.cell
              have hVV : V.heap.size ≤ V3.heap.size := hK3.size
              have hnV : w.heap.size + 5 ≤ V.heap.size := by have := HG.out.lt.1; omega
              refine wpIn_rangeFunc_ownN (l₀ := l) (r₀ := r) rfl hr3 (by omega) (gf := 33) (lb := #[.pointer (some ⟨w.heap.size + 3, 0, none⟩)]) rfl trivial (enters_of Try.func33 (by kernel_rfl) rfl)
                ((walk_stops 7 (by omega) (w.heap.size + 3) (w.heap.size + 5) n V3 (by omega) (by omega) hq3).inRound l) belowK_t (belowK_b (by omega)) (Below.refl _ _) (fun _ => rfl)
                (fun pre' V' => (pre' = [] ∧ (Mid n E w Ds W.heap.size 2 V' ∧ V3.heap.size ≤ V'.heap.size)) ∧ (Below (w.heap.size + 5) V V' ∧ KeepsFrom W1.heap.size V V'))
                (fun c pre' V' => ((c = .ret ∧ ¬ pre' <+: List.range (cnt n)) ∨ (c = .exit 4 ∧ (Mid n E w Ds W.heap.size 2 V' ∧ V3.heap.size ≤ V'.heap.size) ∧ (Below (w.heap.size + 5) V V' ∧ KeepsFrom W1.heap.size V V'))))
                (OwnFrom.and (OwnFrom.and (ownFrom_pure _ (fun pre' => pre' = [])) (Mid.own (by omega) (fun _ => 2))) (OwnFrom.and (ownFrom_below hnV (by omega)) (ownFrom_keepsFrom hVV)))
                ?ix2 ⟨⟨rfl, hM3, Nat.le_refl _⟩, hB3, hK3⟩
                (fun x' a'' _ => a'' = { tmps := #[Value.int IntKind.i64 n, Value.int IntKind.i64 e, Value.pointer (some { block := w.heap.size, off := 0 }), Value.pointer (some { block := w.heap.size + 1, off := 0 }), Value.pointer (some { block := w.heap.size + 2, off := 0 }), Value.pointer (some { block := w.heap.size + 4, off := 0 }), Value.int IntKind.i64 ↑k, Value.pointer (some { block := W.heap.size, off := 0 }), Value.complex FloatKind.f64 (fl (wpt n 1).fst) (fl (wpt n 1).snd), Value.pointer (some { block := V1.heap.size, off := 0 }), Value.int IntKind.i64 0, .complex .f64 (fl (wpt n x').1) (fl (wpt n x').2), u12, u13, u14, u15, u16, u17, u18, u19, u20, u21, u22, u23, u24, u25, Value.int IntKind.i64 ↑k, Value.bool true, u28, u29, Value.func (Fn.func 33) #[] #[Value.pointer (some { block := w.heap.size + 3, off := 0 })], Value.complex FloatKind.f64 (fl (wpt n 1).fst) (fl (wpt n 1).snd), Value.tuple #[Value.agg #[Value.int IntKind.i64 (wpt n 1).fst, Value.int IntKind.i64 (wpt n 1).snd], Value.int IntKind.i64 0], Value.int IntKind.i64 n, Value.int IntKind.i64 1, Value.tuple #[Value.agg #[Value.int IntKind.i64 (wpt n 1).fst, Value.int IntKind.i64 (wpt n 1).snd], Value.int IntKind.i64 0], Value.agg #[Value.int IntKind.i64 (wpt n 1).fst, Value.int IntKind.i64 (wpt n 1).snd], Value.int IntKind.i64 0, Value.int IntKind.i64 0, Value.bool false, Value.bool false, Value.complex FloatKind.f64 (fl (wpt n 1).fst) (fl (wpt n 1).snd), Value.agg #[Value.int IntKind.i64 (wpt n 1).fst, Value.int IntKind.i64 (wpt n 1).snd], Value.complex FloatKind.f64 (fl (wpt n 1).fst) (fl (wpt n 1).snd), Value.bool false, Value.bool false, Value.int IntKind.i64 1, Value.int IntKind.i64 2, Value.int IntKind.i64 2, Value.bool true, Value.func (Fn.func 33) #[] #[Value.pointer (some { block := w.heap.size + 3, off := 0 })], .complex .f64 (fl (wpt n x').1) (fl (wpt n x').2), u52, u53, u54, u55, u56, u57, u58, u59, u60, u61, u62, u63, u64, u65, u66, u67, u68, u69, u70], defers := [] })
                (fun _ _ _ _ _ _ hs _ _ => hs) ?assign2 ?body2 ?done2 ?stop2
              case ix2 =>
                exact fun c pre' X Y row hs hg hr => hs.imp id (fun ⟨h1, h2, h3⟩ => ⟨h1, Mid.own (by omega) (fun (_ : Unit) => 2) () X Y row h2 hg hr,
                  ownFrom_below hnV (by omega) () X Y row h3.1 hg hr, ownFrom_keepsFrom hVV () X Y row h3.2 hg hr⟩)
              case assign2 =>
                rintro l2 pre' x' V' K hi hK
                unfold enc
                gi_wp2
                exact hK _ _ (KeepsFrom.refl _ _) (Below.refl _ _) hi rfl
              case body2 =>
                rintro l2 pre' x' a'' V' _ _ ⟨⟨rfl, hM', hs'⟩, hBV', hKV'⟩ rfl _
                have HM' := Sd.mk hM'
                have HBK := Sd.mk (And.intro hBV' hKV')
                clear hM' hBV' hKV'
                by_cases hz : wpt n x' = (0, 0)
                · rw [hz]
                  simp only [fl0]
                  have o0 : FloatKind.f64.format.order 0 0 = some .eq := by decide
                  gi_wp2
                  exact ⟨KeepsFrom.refl _ _, .inr ⟨rfl, ⟨HM'.out, hs'⟩, HBK.out⟩⟩
                · have hpf : Sd (¬ [] ++ [x'] <+: List.range (cnt n)) := ⟨by
                    intro hp
                    apply hz
                    have h1 := hp.getElem (i := 0) (by simp)
                    simp at h1
                    rw [h1]
                    unfold wpt
                    rw [Nat.zero_mod, hat_first]⟩
                  have hor := order_zero (wpt n x').1 (wpt n x').2 (by have := wpt_bd n 1 hmc x'; omega) (by have := wpt_bd n 1 hmc x'; omega) hz
                  have hR := HM'.out.g.c.r
                  have c22 := hR.cell
                  have f22 := hR.frozen
                  gi_wp2
                  exact ⟨(KeepsOthers.setCell _ _ _).from _, .inl ⟨rfl, hpf.out⟩⟩
              case done2 =>
                rintro xs V' hxs ⟨⟨hp, _⟩, _⟩
                rw [hp] at hxs
                have := congrArg List.length hxs
                simp at this
                omega
              case stop2 =>
                rintro c pre' V' hpre (⟨_, h⟩ | ⟨rfl, ⟨hM', hs'⟩, hBV', hKV'⟩)
                · exact absurd hpre h
                · have HM' := Sd.mk hM'
                  have HBK := Sd.mk (And.intro hBV' hKV')
                  have c3' := hM'.n.cell
                  have cE' := hM'.g.c.e.cell
                  have hS' : W1.heap.size ≤ V'.heap.size := Nat.le_trans hS3 hs'
                  clear hM' hBV' hKV'
                  by_cases hmE : E = 2
                  · subst hmE
                    gi_wp2
                    refine ⟨HBK.out.2, .inr ⟨rfl, by rw [hpl]; rfl, ?_⟩, hS'⟩
                    rw [hpl]; exact HM'.out
                  · have hmE' : ¬ (2 = E) := fun h => hmE h.symm
                    gi_wp2
                    refine ⟨HBK.out.2, HBK.out.1, ⟨?_, hS'⟩, by rw [hpl]; push_cast; omega⟩
                    rw [hpl]; exact HM'.out
            · have hm2' : ¬ ((m : Int) + 1 = 2) := by omega
              by_cases hmE : (m : Int) + 1 = E
              · gi_wp2
                obtain ⟨hpl, hK3, hB3, hS3⟩ := HS.out
                refine ⟨hK3 _, .inr ⟨rfl, by rw [hpl]; push_cast; exact hmE, ?_⟩, hS3 _⟩
                have hms := HM2.out.set (m + 1)
                rw [show ((m + 1 : Nat) : Int) = E from by push_cast; exact hmE] at hms
                rw [hpl]; exact hms
              · gi_wp2
                obtain ⟨hpl, hK3, hB3, hS3⟩ := HS.out
                refine ⟨hK3 _, hB3 _, ⟨?_, hS3 _⟩, by rw [hpl]; push_cast; omega⟩
                rw [hpl]; exact HM2.out.set (m + 1)
          · have hpf : ¬ pre ++ [x] <+: List.range (cnt n) := by
              intro hp
              apply heq
              have h1 := hp.getElem (i := pre.length) (by simp)
              simp at h1
              rw [h1, hm]
            have hor := order_ne (wpt n x).1 (wpt n x).2 (wpt n m).1 (wpt n m).2 (by omega) (by omega) (by omega) (by omega) (fun h => heq (Prod.ext h.1 h.2))
            have hR := HM2.out.g.c.r
            have c22 := hR.cell
            have f22 := hR.frozen
            have hK4 : ∀ v, KeepsFrom W1.heap.size V (V2.setCell ⟨w.heap.size + 2, 0, none⟩ v) := fun v => (keeps_below hbV).trans ((KeepsOthers.setCell _ _ _).from _)
            have HS := Sd.mk (And.intro hpf hK4)
            clear hpf hK4
            gi_wp2
            exact ⟨HS.out.2 _, .inl ⟨rfl, HS.out.1⟩, Nat.le_trans hs1 (HS.out.2 _).size⟩
        case done =>
          rintro D xs V hD rfl ⟨⟨hM, hs1⟩, hE⟩ hKD
          simp only [List.length_range] at hM hE
          obtain ⟨c, hc0, ha⟩ := atC_out n (cnt n) (Nat.le_refl _)
          have CA := Sd.mk (rAt_any n (cnt n))
          rw [ha] at CA
          simp only [ptV] at CA
          have HM := Sd.mk hM
          have c0 := hM.g.c.o.cell
          have c3 := hM.n.cell
          clear hM
          gi_wp2_with fail
          refine (callsIn_wide.2 (CA.out _)).mono ?_
          rintro e1 V1 ⟨rfl, hb1⟩
          have hM1 := HM.out.keep hb1 HM.out.s
          have c31 := hM1.n.cell
          have l31 := hM1.n.lt
          have c1E := hM1.g.c.e.cell
          have l1E := hM1.g.c.e.lt
          have HM1 := Sd.mk hM1
          clear hM1
          rcases hc0 with rfl | rfl
          all_goals
            gi_wp2
            refine And.intro ?_ ?_
            rotate_left
            · first | (simp [intOf]; omega) | omega
            unfold Inv
            refine ⟨k + 1, D :: Ds, by omega, ?_, ?_⟩
            · have hg := HM1.out.g
              have hDV : D < V.heap.size := (Array.getElem?_eq_some_iff.1 hKD).1
              have hDW : W.heap.size + 1 ≤ D := by omega
              exact (good_cons (hg.keep ((Below.refl _ V1).alloc (Nat.le_refl _) _) hg.lt.1 hg.lt.2) (by have := HG.out.lt.1; omega) (fun h => by have := HG.out.lt.2 D h; omega)
                (((Below.heap_alloc _ _ D (by have := hb1.size; omega))).trans ((hb1.block D hDV).trans hKD)))
            · repeat apply Exists.intro
              rfl
        case stop =>
          rintro D c pre V hD hpre ⟨hor, hs1⟩ hKD
          rcases hor with ⟨_, h⟩ | ⟨rfl, hE, hM⟩
          · exact absurd hpre h
          obtain ⟨m, hm⟩ : ∃ m, pre.length = m := ⟨_, rfl⟩
          rw [hm] at hE hM
          have hE2 : E ≤ m := by omega
          clear hE
          have CA := Sd.mk (rAt_any n m)
          generalize atC n m = t at *
          obtain ⟨⟨qx, qy⟩, c⟩ := t
          simp only [ptV] at CA
          have HM := Sd.mk hM
          have c0 := hM.g.c.o.cell
          have c3 := hM.n.cell
          clear hM
          gi_wp2_with fail
          refine (callsIn_wide.2 (CA.out _)).mono ?_
          rintro e1 V1 ⟨rfl, hb1⟩
          have hM1 := HM.out.keep hb1 HM.out.s
          have c31 := hM1.n.cell
          have l31 := hM1.n.lt
          have c1E := hM1.g.c.e.cell
          have l1E := hM1.g.c.e.lt
          have HM1 := Sd.mk hM1
          clear hM1
          gi_wp2
          refine And.intro ?_ ?_
          rotate_left
          · first | (simp [intOf]; omega) | omega
          unfold Inv
          refine ⟨k + 1, D :: Ds, by omega, ?_, ?_⟩
          · have hg := HM1.out.g
            have hDV : D < V.heap.size := (Array.getElem?_eq_some_iff.1 hKD).1
            have hDW : W.heap.size + 1 ≤ D := by omega
            exact (good_cons (hg.keep ((Below.refl _ V1).alloc (Nat.le_refl _) _) hg.lt.1 hg.lt.2) (by have := HG.out.lt.1; omega) (fun h => by have := HG.out.lt.2 D h; omega)
              (((Below.heap_alloc _ _ D (by have := hb1.size; omega))).trans ((hb1.block D hDV).trans hKD)))
          · repeat apply Exists.intro
            rfl
      · gi_wp2_with fail
        refine (callsIn_wide.2 (awake13 _)).mono ?_
        rintro e1 V1 ⟨rfl, hb1⟩
        have hG1 := HG.out.keep hb1 HG.out.lt.1 HG.out.lt.2
        have c2' := hG1.c.r.cell
        have c2f' := hG1.c.r.frozen
        have HG1 := Sd.mk hG1
        clear hG1
        gi_wp2
        exact leaves_all _ Ds _ (HG1.out.c.r.set _) (HG1.out.b.setCell (p := ⟨w.heap.size + 2, 0, none⟩) (by simp) _) (fun D hD => ⟨(HG1.out.d D hD).1, (KeepsOthers.setCell _ _ _).same D _ (HG1.out.d D hD).2 rfl⟩) HG1.out.u rfl

end Go.Proofs.Ytdhkhdfenalagaa
