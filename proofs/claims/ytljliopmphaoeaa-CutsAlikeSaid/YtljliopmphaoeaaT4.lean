/- lay of package table. -/
import Derived.Test.YtljliopmphaoeaaMC
namespace Go.Proofs.Ytljliopmphaoeaa
open Go Go.RowKit Go.Proofs.Ytljliopmphaoeaa.Q

theorem cells_new (X : World) (cs : List Value) (T : TypeId) {B : Nat} (hB : B = X.heap.size) : ∀ j u, cs[j]? = some u → (X.alloc (.cells cs.toArray T)).cell? ((⟨B, 0, none⟩ : Addr).add j) = some u := by
  intro j u hu
  subst hB
  have h := (Blk.new X cs.toArray T).at j
  rw [add0, Nat.zero_add, h]
  simpa using hu
theorem splice_cons {α : Type} (l : List α) (o : Nat) (v : α) (vs : List α) (h : o + (vs.length + 1) ≤ l.length) : splice l o (v :: vs) = splice (l.set o v) (o + 1) vs := by
  have e1 : (l.set o v).take (o + 1) = l.take o ++ [v] := by
    rw [List.take_add_one, List.getElem?_set_self (by omega), List.take_set_of_le (Nat.le_refl _)]; rfl
  have e2 : (l.set o v).drop (o + 1 + vs.length) = l.drop (o + 1 + vs.length) := List.drop_set_of_lt (by omega)
  unfold splice
  rw [e1, e2, List.length_cons, show o + (vs.length + 1) = o + 1 + vs.length by omega]; simp
theorem splice_nil {α : Type} (l : List α) (o : Nat) : splice l o [] = l := by unfold splice; simp
section
variable {P : Program}
/-- a wide value stored within a row -/
theorem wpList_store_at {ops : Array Oper} {rest : List Oper} {o : Oper} {a : Act} {w : World} {Q : Exit → Act → World → Prop} (hgd : o.guard = none) (ty : TypeId) (x y : Operand) (ho : o.op = .store ty x y)
    (g off : Nat) (cells : Array Value) (hx : a.eval x = .pointer (some ⟨g, off, none⟩)) (hy : a.eval y = .agg cells)
    (t : TypeId) (cur : List Value) (hg : w.heap[g]? = some (.cells cur.toArray t (0, 0))) (hi : (P.info? ty).map (·.size) = some cells.size)
    (hfit : off + cells.toList.length ≤ cur.length) (h1 : ∀ v ∈ cells.toList, v.oneCell' = true)
    (h : wpList P ops Q rest (a.put o.dst undef) (w.setRow g (splice cur off cells.toList).toArray)) : wpList P ops Q (o :: rest) a w := by
  refine wpList_plain hgd fun K hK => ?_
  have hst := run_storeCells_at P g off t cells.toList 0 cur.toArray w hg (by simpa using hfit) h1
  have e : (cur.toArray.toList.take (off + 0) ++ cells.toList ++ cur.toArray.toList.drop (off + 0 + cells.toList.length)) = splice cur off cells.toList := by simp [splice]
  rw [e] at hst
  have hv : (storeVar ty ⟨g, off, none⟩ (.agg cells)).run P w = .ok () (w.setRow g (splice cur off cells.toList).toArray) := by
    cases hq : P.info? ty with
    | none => simp [hq] at hi
    | some i =>
      have hs : cells.size = i.size := by simp [hq] at hi; omega
      simp [storeVar, sizeOf, typeInfo, hq, Value.cells, hs, hst]
  unfold Oper.wp execOp
  simp only [ho, hx, hy, Instr.storeAt, Instr.sureAddr, Sem.run_bind, Sem.run_pure, Result.andThen_ok, hv]
  exact hK _ _ h
end
/-- a table between the steps of lay: a row of one's own with these cells -/
structure LayI (w : World) (B Br g cap : Nat) (c : Cfg) (r : Rul) (v : Value) (base n : Nat) (cur : List Value) (W : World) : Prop where
  tab : TabAt W B c (.slice (some ⟨g, 0, none⟩) n cap)
  row : W.heap[g]? = some (.cells cur.toArray 60 (0, 0))
  len : cur.length = cap * 12
  le : n ≤ cap
  max : cap ≤ maxLen
  box : Blk W Br #[.int .i64 r.id, .int .u32 r.src.a, .int .i64 r.src.n, .int .u32 r.dst.a, .int .i64 r.dst.n, .int .u16 r.sp.lo, .int .u16 r.sp.hi, .int .u16 r.dp.lo, .int .u16 r.dp.hi, .int .u8 r.pr.v, .int .u8 r.pr.c, .int .i64 r.act] 60
  base : base ≤ g
  nB : g ≠ B
  nBr : g ≠ Br
  nBB : B ≠ Br
  only : Only w W (fun k => k = B ∨ v.ownBlock = some k)
  at' : v.ownBlock = some g ∨ w.heap.size ≤ g
theorem LayI.turn {w W w1 : World} {B Br g cap : Nat} {c : Cfg} {r : Rul} {v : Value} {base n : Nat} {cur cur1 : List Value} (h : LayI w B Br g cap c r v base n cur W) (ho : Only W w1 (fun k => k = g))
    (hg : w1.heap[g]? = some (.cells cur1.toArray 60 (0, 0))) (hl : cur1.length = cur.length) : LayI w B Br g cap c r v base n cur1 w1 :=
  ⟨h.tab.only ho (fun e => h.nB e.symm), hg, hl.trans h.len, h.le, h.max, h.box.only ho (fun e => h.nBr e.symm), h.base, h.nB, h.nBr, h.nBB,
    h.only.trans ho (fun b hb e => by
      subst e
      rcases h.at' with e | e
      · exact .inr e
      · omega), h.at'⟩
theorem copied {W w1 : World} {g : Nat} {X : Array Value} (h : w1 = W.drew ∨ w1 = W.drew.setRow g X) : Only W w1 (fun k => k = g) := by
  rcases h with rfl | rfl
  · exact (Only.refl _ _).drew
  · exact ⟨rfl, rfl, rfl, by simp, fun k _ hne => (setRow_other W.drew g k X hne)⟩
theorem stored (W : World) (g : Nat) (X : Array Value) : Only W (W.drew.setRow g X) (fun k => k = g) := copied (.inr rfl)
theorem splice_len {α : Type} (L : List α) (o : Nat) (cs : List α) (h : o + cs.length ≤ L.length) : (splice L o cs).length = L.length := by
  unfold splice
  simp
  omega
theorem rulsC_drop (rs : List Rul) (p : Nat) (hp : p ≤ rs.length) (j : Nat) (v : Value) (h : (rulsC (rs.drop p))[j]? = some v) : (rulsC rs)[p * 12 + j]? = some v := by
  have e : rulsC rs = rulsC (rs.take p) ++ rulsC (rs.drop p) := by rw [← rulsC_app, List.take_append_drop]
  have hl : (rulsC (rs.take p)).length = p * 12 := by rw [rulsC_len, List.length_take, Nat.min_eq_left hp]
  rw [e, List.getElem?_append_right (by omega), hl, show p * 12 + j - p * 12 = j from by omega]
  exact h
theorem laid_list {α : Type} (L D R : List α) (a m : Nat) (hR : R.length = m) (h : a + m + D.length ≤ L.length) : (splice (splice L (a + m) D) a R).take (a + m + D.length) = L.take a ++ (R ++ D) := by
  have e1 : (splice L (a + m) D).take a = L.take a := by
    unfold splice
    rw [List.take_append_of_le_length (by simp; omega), List.take_take, Nat.min_eq_left (by omega)]
  have hA : (L.take (a + m)).length = a + m := by simp; omega
  have e2 : (splice L (a + m) D).drop (a + R.length) = D ++ L.drop (a + m + D.length) := by
    unfold splice
    rw [hR, List.drop_append_of_le_length (by omega), List.drop_of_length_le (by omega), List.nil_append]
  show (((splice L (a + m) D).take a) ++ (R ++ (splice L (a + m) D).drop (a + R.length))).take _ = _
  rw [e1, e2]
  have e3 : L.take a ++ (R ++ (D ++ L.drop (a + m + D.length))) = (L.take a ++ (R ++ D)) ++ L.drop (a + m + D.length) := by simp
  rw [e3]
  exact List.take_left' (by simp; omega)
theorem laid_rows (rs : List Rul) (r : Rul) (p : Nat) (hp : p ≤ rs.length) (Z cur : List Value) (hZ : Z.length = 12) (hc : cur.take ((rs.length + 1) * 12) = rulsC rs ++ Z) :
    (splice (splice cur ((p + 1) * 12) (rulsC (rs.drop p))) (p * 12) (rulC r)).take ((rs.length + 1) * 12) = rulsC (rs.take p ++ r :: rs.drop p) := by
  have hl : (rulsC (rs.take p)).length = p * 12 := by rw [rulsC_len, List.length_take, Nat.min_eq_left hp]
  have hd : (rulsC (rs.drop p)).length = (rs.length - p) * 12 := by rw [rulsC_len, List.length_drop]
  have hL : (rs.length + 1) * 12 ≤ cur.length := by
    have := congrArg List.length hc
    rw [List.length_take, List.length_append, rulsC_len, hZ] at this
    omega
  have e := laid_list cur (rulsC (rs.drop p)) (rulC r) (p * 12) 12 rfl (by omega)
  rw [show p * 12 + 12 = (p + 1) * 12 from by omega, show (p + 1) * 12 + (rulsC (rs.drop p)).length = (rs.length + 1) * 12 from by omega] at e
  have e5 : cur.take (p * 12) = rulsC (rs.take p) := by
    have e6 : cur.take (p * 12) = (cur.take ((rs.length + 1) * 12)).take (p * 12) := by rw [List.take_take, Nat.min_eq_left (by omega)]
    have e7 : rulsC rs = rulsC (rs.take p) ++ rulsC (rs.drop p) := by rw [← rulsC_app, List.take_append_drop]
    rw [e6, hc, e7, List.append_assoc]
    exact List.take_left' hl
  rw [e, e5, rulsC_app]
  rfl
theorem LayI.own {w W : World} {B Br g cap : Nat} {c : Cfg} {r : Rul} {v : Value} {base n : Nat} {cur : List Value} (h : LayI w B Br g cap c r v base n cur W) {rs : List Rul} (hc : cur.take (n * 12) = rulsC rs) (hn : rs.length = n) : OwnR W base (.slice (some ⟨g, 0, none⟩) n cap) rs := by
  subst hn
  exact ⟨rulsC_len rs, .inr ⟨g, cap, _, rfl, h.base, h.row, h.le, h.max, by simpa using h.len, by simpa using hc⟩⟩
theorem LayI.at2 {w W : World} {B Br g cap : Nat} {c : Cfg} {r : Rul} {v : Value} {base n : Nat} {cur : List Value} (h : LayI w B Br g cap c r v base n cur W) :
    (Value.slice (some ⟨g, 0, none⟩) n cap).ownBlock = v.ownBlock ∨ ∃ g', w.heap.size ≤ g' ∧ (Value.slice (some ⟨g, 0, none⟩) n cap).ownBlock = some g' := by
  rcases h.at' with e | e
  · exact .inl e.symm
  · exact .inr ⟨g, e, rfl⟩
def zeroR : Rul := ⟨0, ⟨0, 0⟩, ⟨0, 0⟩, ⟨0, 0⟩, ⟨0, 0⟩, ⟨0, 0⟩, 0⟩
theorem lay_made {w w2 : World} {B base cap g cap2 : Nat} {c : Cfg} {r : Rul} {rs : List Rul} {A : Option Addr} (hT : TabAt w B c (.slice A rs.length cap)) (hB : B < base)
    (hnb : ∀ k, (Value.slice A rs.length cap).ownBlock = some k → base ≤ k ∧ k < w.heap.size)
    (hown2 : w2.ownsRow base 60 12 (.slice (some ⟨g, 0, none⟩) (rs.length + 1) cap2) (rs.length + 1) (rulsC rs ++ rulC zeroR))
    (hg2 : ((w.alloc (.cells #[.int .i64 r.id, .int .u32 r.src.a, .int .i64 r.src.n, .int .u32 r.dst.a, .int .i64 r.dst.n, .int .u16 r.sp.lo, .int .u16 r.sp.hi, .int .u16 r.dp.lo, .int .u16 r.dp.hi, .int .u8 r.pr.v, .int .u8 r.pr.c, .int .i64 r.act] 60)).alloc (.cells (rulC zeroR).toArray 60)).grownBy w2 (Value.slice A rs.length cap).ownBlock)
    (hat2 : some g = (Value.slice A rs.length cap).ownBlock ∨ some g = some (w.heap.size + 1 + 1)) :
    ∃ cur, LayI w B w.heap.size g cap2 c r (.slice A rs.length cap) base (rs.length + 1) cur (w2.setCell ⟨B, 7, none⟩ (.slice (some ⟨g, 0, none⟩) (rs.length + 1) cap2)) ∧ cur.take ((rs.length + 1) * 12) = rulsC rs ++ rulC zeroR := by
  obtain ⟨h1, h2⟩ := hown2
  rcases h2 with ⟨h2, h3⟩ | ⟨g', c', cur, hv, hb', hrow, hle, hmx, hsz, htk⟩
  · omega
  injection hv with e1 e2 e3
  injection e1 with e1
  injection e1 with e1
  subst e1 e3
  have hBt := hT.lt
  have hgB : g ≠ B := by omega
  have hneB : some B ≠ (Value.slice A rs.length cap).ownBlock := fun e => by have := hnb B e.symm; omega
  have hneR : some w.heap.size ≠ (Value.slice A rs.length cap).ownBlock := fun e => by have := hnb _ e.symm; omega
  have hgR : g ≠ w.heap.size := by
    rcases hat2 with e | e
    · have := hnb g e.symm; omega
    · injection e with e; omega
  refine ⟨cur.toList, ⟨?_, ?_, ?_, hle, hmx, ?_, hb', hgB, hgR, by omega, ?_, ?_⟩, htk⟩
  · exact (Blk.kept ((hT.alloc _).alloc _) hg2 hneB).set 7 _
  · exact Blk.other (W := w2) (B := g) (by simpa [Blk] using hrow) _ hgB
  · simpa using hsz
  · exact (((Blk.new w _ _).alloc _).kept hg2 hneR).other _ (by show w.heap.size ≠ B; omega)
  · exact ((((Only.refl w _).alloc _).alloc _).grown hg2 (fun k hk _ => .inr hk)).setCell _ _ (fun _ => .inl rfl)
  · rcases hat2 with e | e
    · exact .inl e.symm
    · injection e with e; exact .inr (by omega)
set_option maxHeartbeats 2000000 in
set_option maxRecDepth 100000 in
theorem tabLay_any (B : Nat) (c : Cfg) (rs : List Rul) (base : Nat) (v : Value) (w : World) (p : Nat) (r : Rul) (hp : p ≤ rs.length) (hl : rs.length ≤ 100000) (hT : TabAt w B c v) (hO : OwnR w base v rs) (hB : B < base) (hbase : base ≤ w.heap.size) :
    Calls Try.prog 56 #[.pointer (some ⟨B, 0, none⟩), .int .i64 p, .agg #[.int .i64 r.id, .int .u32 r.src.a, .int .i64 r.src.n, .int .u32 r.dst.a, .int .i64 r.dst.n, .int .u16 r.sp.lo, .int .u16 r.sp.hi, .int .u16 r.dp.lo, .int .u16 r.dp.hi, .int .u8 r.pr.v, .int .u8 r.pr.c, .int .i64 r.act]] w fun e w' => ∃ v', e = .returned (.tuple #[]) ∧ TabAt w' B c v' ∧ OwnR w' base v' (rs.take p ++ r :: rs.drop p) ∧ (v'.ownBlock = v.ownBlock ∨ ∃ g, w.heap.size ≤ g ∧ v'.ownBlock = some g) ∧ Only w w' (fun k => k = B ∨ v.ownBlock = some k) := by
  obtain ⟨A, cap, rfl⟩ := hO.slice
  obtain ⟨i0, hi, hz0, hz1, hz2⟩ := info_parts infoRule
  have c7 := hT.cell (i := 7) rfl
  have cl := hT.lt
  have cf := hT.frozen
  have HO := Sd.mk hO
  have HT := Sd.mk hT
  have hnb : ∀ k, (Value.slice A rs.length cap).ownBlock = some k → base ≤ k ∧ k < w.heap.size := hO.lt
  have HNE : Sd (some B ≠ (Value.slice A rs.length cap).ownBlock) := ⟨fun e => by have := hnb B e.symm; omega⟩
  have HNR : Sd (some w.heap.size ≠ (Value.slice A rs.length cap).ownBlock) := ⟨fun e => by have := hnb _ e.symm; omega⟩
  have HNB := Sd.mk hnb
  have HI := Sd.mk (And.intro hi (And.intro hz0 (And.intro hz1 hz2)))
  clear hi hz0 hz1 hz2 hO hT hnb
  go_enter Try.func56, Try.ntmps56
  go_upto_region 1 with fail
  go_cut [5] (fun s5 W => s5 = .pointer (some ⟨w.heap.size, 0, none⟩) ∧ Sd (∃ g cp cur, LayI w B w.heap.size g cp c r (.slice A rs.length cap) base (rs.length + 1) cur W ∧ cur.take ((rs.length + 1) * 12) = rulsC rs ++ rulC zeroR))
  case first =>
    go_wp2_with (at_builtin; refine wpList_append_own_at _ rfl _ _ 46 rfl base 60 i0 _ 12 64 Try.underlying46 HI.out.1 HI.out.2.1 HI.out.2.2.1 HI.out.2.2.2 rfl (by decide) (.slice A rs.length cap) rs.length (rulsC rs) rfl ((World.ownsRow.alloc HO.out _).alloc _) ⟨w.heap.size + 1, 0, none⟩ 1 1 (rulC zeroR) rfl rfl (cells_new _ (rulC zeroR) _ (by simp)) (by have := ruls_one [zeroR]; rwa [rulsC_one] at this) (by unfold maxLen; omega) (by omega) (by simp; omega) ?_; intro v1 w2 hown2 hg2 _ hat2; obtain ⟨g, cap2, rfl⟩ := ownsRow_succ hown2; have cBB := (Blk.kept ((HT.out.alloc (.cells #[.int .i64 r.id, .int .u32 r.src.a, .int .i64 r.src.n, .int .u32 r.dst.a, .int .i64 r.dst.n, .int .u16 r.sp.lo, .int .u16 r.sp.hi, .int .u16 r.dp.lo, .int .u16 r.dp.hi, .int .u8 r.pr.v, .int .u8 r.pr.c, .int .i64 r.act] 60)).alloc (.cells (rulC zeroR).toArray 60)) hg2 HNE.out); have c7 := cBB.cell (i := 7) rfl; have cf2 := cBB.frozen; have cl2 := cBB.lt; have HM := Sd.mk (lay_made (r := r) HT.out (by assumption) HNB.out hown2 hg2 (by simpa [Value.ownBlock] using hat2)); clear cBB hown2 hg2 hat2)
    go_meet
    exact ⟨rfl, ⟨_, _, _, HM.out.choose_spec⟩⟩
  case rest =>
    obtain ⟨rfl, HX⟩ := hcut
    obtain ⟨g, cp, cur, HY⟩ := HX.out
    have HL := Sd.mk HY
    have c7 := HY.1.tab.cell (i := 7) rfl
    have cf2 := HY.1.tab.frozen
    have cl2 := HY.1.tab.lt
    have hle := HY.1.le
    clear HY HX
    go_wp2_with fail
    refine wp_region_still_tail 13 (by kernel_rfl) (by kernel_rfl) ?_
    change wpStill _ _ wc.drew _ _ _
    simp only [List.take_succ_cons, List.take_zero, List.drop_succ_cons, List.drop_zero]
    repeat still_step
    rw [show IntKind.i64.wrap ((p : Int) + 1) = ((p + 1 : Nat) : Int) from by rw [IntKind.wrap_i64]; omega]
    refine wpStill_step (fun K hK => ?_)
    go_simp
    rw [if_pos (show (0 : Int) ≤ (p : Int) + 1 by omega)]
    refine ⟨rfl, hK _ ?_⟩
    clear hK K
    repeat still_step
    refine wpStill_step (fun K hK => ?_)
    go_simp
    rw [if_pos (show (p : Int) ≤ (rs.length : Int) + 1 by omega), if_neg (show ¬ cp = p by omega)]
    refine ⟨rfl, hK _ ?_⟩
    clear hK K
    refine wpStill_nil ?_
    change wpList _ _ _ _ _ wc.drew
    have HLD : Sd (Below wc.heap.size wc wc.drew) := ⟨(Below.refl _ _).drew⟩
    refine wpList_copy_wide rfl (.tmp 22) (.tmp 28) 46 46 rfl 12 60 Try.underlying46 sizeRule (if cp = p + 1 then some ⟨g, 0, none⟩ else some ⟨g, (p + 1) * 12, none⟩) (some ⟨g, p * 12, none⟩) (rs.length - p) (cp - (p + 1)) (rs.length + 1 - p) (cp - p) rfl rfl g ((p + 1) * 12) cur 60 ?c1 (rulsC (rs.drop p)) ?c2 ?c3 ?c4 (ruls_one _) ?c5
    case c1 => exact HL.out.1.row
    case c2 =>
      rw [rulsC_len, List.length_drop, show Nat.min (rs.length + 1 - p) (rs.length - p) = rs.length - p from Nat.min_eq_right (by omega)]
    case c3 =>
      intro hmn
      rw [show Nat.min (rs.length + 1 - p) (rs.length - p) = rs.length - p from Nat.min_eq_right (by omega)] at hmn
      refine ⟨if_neg (by omega), _, rfl, fun j v hj => ?_⟩
      have h1 := rulsC_drop rs p hp j v hj
      have h2 : (cur.take ((rs.length + 1) * 12))[p * 12 + j]? = some v := by
        rw [HL.out.2, List.getElem?_append_left (List.getElem?_eq_some_iff.1 h1).1]; exact h1
      have h3 : cur[p * 12 + j]? = some v := by
        rw [List.getElem?_take] at h2
        split at h2
        · exact h2
        · cases h2
      have e : (⟨g, p * 12, none⟩ : Addr).add j = ⟨g, p * 12 + j, none⟩ := by unfold Addr.add; split <;> simp_all
      rw [e]
      have := Blk.at (W := wc.drew) (B := g) (cs := cur.toArray) (t := 60) HL.out.1.row (p * 12 + j)
      rw [this]
      simpa using h3
    case c4 =>
      have := HL.out.1.len
      rw [rulsC_len, List.length_drop]
      omega
    case c5 =>
      intro w1 hg1 hw1
      generalize (if cp = p + 1 then some (⟨g, 0, none⟩ : Addr) else some ⟨g, (p + 1) * 12, none⟩) = dA
      have hlen : (splice cur ((p + 1) * 12) (rulsC (rs.drop p))).length = cur.length := splice_len _ _ _ (by
        have := HL.out.1.len
        rw [rulsC_len, List.length_drop]
        omega)
      have hT1 := HL.out.1.turn (copied hw1) hg1 hlen
      have HT1 := Sd.mk hT1
      clear c7 cf2 cl2 hw1 hg1 HLD
      have c7 := hT1.tab.cell (i := 7) rfl
      have cf3 := hT1.tab.frozen
      have cl3 := hT1.tab.lt
      have gf := Blk.frozen hT1.row
      have gl := Blk.lt hT1.row
      have k := hT1.box
      obtain ⟨d0, d1, d2, d3, d4, d5, d6, d7, d8, d9, d10, d11⟩ := show w1.cell? ⟨w.heap.size, 0, none⟩ = some (.int .i64 r.id) ∧ w1.cell? ⟨w.heap.size, 1, none⟩ = some (.int .u32 r.src.a) ∧ w1.cell? ⟨w.heap.size, 2, none⟩ = some (.int .i64 r.src.n) ∧ w1.cell? ⟨w.heap.size, 3, none⟩ = some (.int .u32 r.dst.a) ∧ w1.cell? ⟨w.heap.size, 4, none⟩ = some (.int .i64 r.dst.n) ∧ w1.cell? ⟨w.heap.size, 5, none⟩ = some (.int .u16 r.sp.lo) ∧ w1.cell? ⟨w.heap.size, 6, none⟩ = some (.int .u16 r.sp.hi) ∧ w1.cell? ⟨w.heap.size, 7, none⟩ = some (.int .u16 r.dp.lo) ∧ w1.cell? ⟨w.heap.size, 8, none⟩ = some (.int .u16 r.dp.hi) ∧ w1.cell? ⟨w.heap.size, 9, none⟩ = some (.int .u8 r.pr.v) ∧ w1.cell? ⟨w.heap.size, 10, none⟩ = some (.int .u8 r.pr.c) ∧ w1.cell? ⟨w.heap.size, 11, none⟩ = some (.int .i64 r.act) from ⟨k.cell (i := 0) rfl, k.cell (i := 1) rfl, k.cell (i := 2) rfl, k.cell (i := 3) rfl, k.cell (i := 4) rfl, k.cell (i := 5) rfl, k.cell (i := 6) rfl, k.cell (i := 7) rfl, k.cell (i := 8) rfl, k.cell (i := 9) rfl, k.cell (i := 10) rfl, k.cell (i := 11) rfl⟩
      clear k hT1
      go_wp2_with fail
      refine wp_region_still_tail 7 (by kernel_rfl) (by kernel_rfl) ?_
      change wpStill _ _ w1.drew _ _ _
      simp only [List.take_succ_cons, List.take_zero, List.drop_succ_cons, List.drop_zero]
      repeat still_step
      refine wpStill_step (fun K hK => ?_)
      go_simp
      rw [if_pos (show (p : Int) < (rs.length : Int) + 1 by omega)]
      refine ⟨rfl, hK _ ?_⟩
      clear hK K
      refine wpStill_nil ?_
      change wpList _ _ _ _ _ w1.drew
      refine wpList_store_at rfl 60 (.tmp 36) (.tmp 35) rfl g (p * 12) #[.int .i64 r.id, .int .u32 r.src.a, .int .i64 r.src.n, .int .u32 r.dst.a, .int .i64 r.dst.n, .int .u16 r.sp.lo, .int .u16 r.sp.hi, .int .u16 r.dp.lo, .int .u16 r.dp.hi, .int .u8 r.pr.v, .int .u8 r.pr.c, .int .i64 r.act] rfl rfl 60 _ HT1.out.row sizeRule ?s1 ?s2 ?s3
      case s1 =>
        have := HT1.out.len
        show p * 12 + 12 ≤ _
        omega
      case s2 => have := ruls_one [r]; rwa [rulsC_one] at this
      case s3 =>
        have hlen2 : (splice (splice cur ((p + 1) * 12) (rulsC (rs.drop p))) (p * 12) (rulC r)).length = _ := splice_len _ _ _ (by
          have := HT1.out.len
          rw [rulC_len]
          omega)
        have HT2 := Sd.mk (HT1.out.turn (stored w1 g (splice (splice cur ((p + 1) * 12) (rulsC (rs.drop p))) (p * 12) (rulC r)).toArray) (setRow_heap w1.drew g _ _ _ _ HT1.out.row) hlen2)
        have HC := Sd.mk (laid_rows rs r p hp (rulC zeroR) cur rfl HL.out.2)
        change wpList _ _ _ _ _ (w1.drew.setRow g (splice (splice cur ((p + 1) * 12) (rulsC (rs.drop p))) (p * 12) (rulC r)).toArray)
        generalize w1.drew.setRow g (splice (splice cur ((p + 1) * 12) (rulsC (rs.drop p))) (p * 12) (rulC r)).toArray = w3 at HT2 ⊢
        generalize splice (splice cur ((p + 1) * 12) (rulsC (rs.drop p))) (p * 12) (rulC r) = cur3 at HT2 HC
        go_wp2
        go_end0
        exact ⟨rfl, _, HT2.out.tab, HT2.out.own HC.out (by simp; omega), HT2.out.at2, HT2.out.only⟩
end Go.Proofs.Ytljliopmphaoeaa
