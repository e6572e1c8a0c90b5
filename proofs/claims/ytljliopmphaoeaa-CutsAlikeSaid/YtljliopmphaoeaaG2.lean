/- build: the tree is made anew. -/
import Derived.Test.YtljliopmphaoeaaG1
import Derived.Test.YtljliopmphaoeaaMT
import Derived.Deep.RegionLaw
namespace Go.Proofs.Ytljliopmphaoeaa
open Go Go.RowKit Go.Proofs.Ytljliopmphaoeaa.Q
section
variable {P : Program}
/-- append, as one step of a region that draws -/
theorem step_append_own {ops : Array Oper} {o : Oper} {a : Act} {w : World} {K : Act → World → Prop} {Q : Exit → Act → World → Prop} {E : Prop} (hgd : o.guard = none) (s x : Operand) (t : TypeId)
    (ho : o.op = .call { callee := .builtin .append, args := #[s, x], argTypes := #[t, t] })
    (base : Nat) (e : TypeId) (i : TypeInfo) (z : Value) (size bytes : Nat) (ht : P.underlying t = some (.slice e)) (hi : P.info? e = some i) (hz : i.zero = some z)
    (hsize : i.size = size) (hby : i.bytes = bytes) (hzs : z.cells.size = size) (hsz : 0 < size)
    (v : Value) (n : Nat) (xs : List Value) (hs : a.eval s = v) (hown : w.ownsRow base e size v n xs)
    (ad : Addr) (m c : Nat) (news : List Value) (hx : a.eval x = .slice (some ad) m c) (hl : news.length = m * size) (hnews : ∀ j u, news[j]? = some u → w.cell? (ad.add j) = some u) (h1 : ∀ u ∈ news, u.oneCell' = true)
    (h63 : n + m ≤ maxLen) (hbytes : (n + m) * bytes ≤ 140737488355328) (hbase : base ≤ w.heap.size)
    (h : ∀ v' w', w'.ownsRow base e size v' (n + m) (xs ++ news) → w.grownBy w' v.ownBlock → (v'.ownBlock = v.ownBlock ∨ v'.ownBlock = some w.heap.size) → K (a.put o.dst v') w') :
    if Region.wanted o (yielded ops a.tmps) = true then Oper.wp P o a w K Q else E := by
  have hw : Region.wanted o (yielded ops a.tmps) = true := by simp [Region.wanted, hgd]
  rw [if_pos hw]
  obtain ⟨v', w', hr, h2, h3, h4, h5⟩ := run_append_own_at (P := P) w base t o.type e i z size bytes ht hi hz hsize hby hzs hsz v n xs hown ad m c news hl hnews h1 h63 hbytes hbase
  unfold Oper.wp execOp
  simp only [ho, resolve, invoke, builtin, Sem.run_bind, Sem.run_pure, Result.andThen_ok, List.map_toArray, List.map_cons, List.map_nil, hs, hx, hr]
  exact h v' w' h2 h3 h5
end
theorem infoBox : (Try.prog.info? 109).map (fun i => (i.zero, i.size, i.bytes)) = some (some (.agg #[.int .u32 0, .int .u32 0, .int .u32 0, .int .u32 0, .int .u16 0, .int .u16 0, .int .u16 0, .int .u16 0, .int .u8 0, .int .u8 0]), 10, 28) := by kernel_rfl
theorem box_one (b : Bx) : ∀ u ∈ boxC b, u.oneCell' = true := by
  intro u hu
  unfold boxC at hu
  simp only [List.mem_cons, List.not_mem_nil, or_false] at hu
  rcases hu with rfl | rfl | rfl | rfl | rfl | rfl | rfl | rfl | rfl | rfl <;> rfl
theorem mk_ints (n : Nat) (hn : n ≤ 100000) : ∃ Z : Array Value, Z.size = n ∧ ∀ W : World, (Instr.makeSlice 47 (.int .i64 (n : Int)) (.int .i64 (n : Int))).run Try.prog W = .ok (.slice (some ⟨W.heap.size, 0, none⟩) n n) (W.alloc (.cells Z 3)) := by
  obtain ⟨i0, hi, hz0, hz1, hz2⟩ := info_parts infoInt
  refine ⟨madeCells (Value.int .i64 0).cells (n * 1), by rw [size_madeCells, Nat.mul_one], fun W => ?_⟩
  have := run_make (P := Try.prog) W 47 3 i0 _ Try.underlying47 hi hz0 .i64 .i64 (n : Int) (n : Int) (by omega) (by omega) (by rw [hz2]; omega) (by omega)
  rw [this, hz1]
  simp
/-- the boxes of some rules -/
def boxesOf (rs : List Rul) : List Bx := rs.map Rul.box
/-- build, while it makes the boxes -/
structure BuildI (w : World) (E G : Nat) (c : Cfg) (tv lv : Value) (rs : List Rul) (k : Nat) (bv : Value) (W : World) : Prop where
  eng : EngAt W E c tv lv bv (.slice none 0 0) 0
  box : OwnB W w.heap.size bv (boxesOf (rs.take k))
  rul : OwnR W w.heap.size lv rs
  all : ∃ cur : List Value, Blk W G cur.toArray 3 ∧ cur.length = rs.length ∧ cur.take k = numC (List.range k)
  hG : w.heap.size ≤ G
  only : Only w W (fun j => j = E)
theorem rows_ne {W : World} {b1 b2 s1 s2 n1 n2 : Nat} {e1 e2 : TypeId} {v1 v2 : Value} {x1 x2 : List Value} (h1 : W.ownsRow b1 e1 s1 v1 n1 x1) (h2 : W.ownsRow b2 e2 s2 v2 n2 x2) (hne : e1 ≠ e2) : v1.ownBlock = none ∨ v1.ownBlock ≠ v2.ownBlock := by
  cases hb : v1.ownBlock with
  | none => exact .inl rfl
  | some k =>
    right
    intro e
    obtain ⟨_, cs, h3⟩ := row_at h1 k hb
    exact row_ne h2 (show Blk W k cs e1 from h3) hne e
theorem BuildI.below {w W W' : World} {E G : Nat} {c : Cfg} {tv lv bv : Value} {rs : List Rul} {k : Nat} (h : BuildI w E G c tv lv rs k bv W) (hb : Below W.heap.size W W') : BuildI w E G c tv lv rs k bv W' := by
  obtain ⟨cur, h1, h2, h3⟩ := h.all
  exact ⟨Blk.below h.eng hb (Blk.lt h.eng), ownsRow_below h.box hb fun g hg => (h.box.lt g hg).2, ownsRow_below h.rul hb fun g hg => (h.rul.lt g hg).2, ⟨cur, h1.below hb h1.lt, h2, h3⟩, h.hG, h.only.trans (below_only hb (fun _ => False)) (fun _ _ h => h.elim)⟩
theorem build_push {w M w2 : World} {E G : Nat} {c : Cfg} {tv lv bv v1 : Value} {rs : List Rul} {k : Nat} (h : BuildI w E G c tv lv rs k bv M) (hk : k < rs.length) (hg : M.grownBy w2 bv.ownBlock) (hown : w2.ownsRow w.heap.size 109 10 v1 (k + 1) (boxesC (boxesOf (rs.take k)) ++ boxC rs[k].box)) :
    (∀ i, w2.frozen? ⟨E, i, none⟩ = false) ∧ E < w2.heap.size ∧ w2.cell? ⟨E, 9, none⟩ = some bv ∧ E ≠ G ∧ Sd (BuildI w E G c tv lv rs (k + 1) v1 ((w2.setCell ⟨E, 9, none⟩ v1).setCell ⟨G, k, none⟩ (.int .i64 k))) ∧ (∃ u, w2.cell? ⟨G, k, none⟩ = some u) ∧ (∀ i, w2.frozen? ⟨G, i, none⟩ = false) ∧ G < w2.heap.size := by
  obtain ⟨k1, k2, k3⟩ := h.all.choose_spec
  have e2 := Blk.kept h.eng hg (row_ne h.box h.eng (by decide))
  have a2 := Blk.kept k1 hg (row_ne h.box k1 (by decide))
  have r2 := World.ownsRow.kept h.rul hg (rows_ne h.rul h.box (by decide))
  have hEG : E ≠ G := neTypes e2 a2 (by decide)
  have e3 := Blk.set e2 9 v1
  simp only [List.setIfInBounds_toArray, List.set_cons_zero, List.set_cons_succ] at e3
  have a3 := a2.other (a := ⟨E, 9, none⟩) v1 (Ne.symm hEG)
  have q1 := row_other hown ⟨E, 9, none⟩ v1 (row_ne hown e2 (by decide))
  have q2 := row_other r2 ⟨E, 9, none⟩ v1 (row_ne r2 e2 (by decide))
  refine ⟨Blk.frozen e2, Blk.lt e2, Blk.cell e2 (i := 9) rfl, hEG, ⟨⟨Blk.other e3 _ hEG, ?_, ?_, ⟨(h.all.choose).set k (.int .i64 k), ?_, by rw [List.length_set]; exact k2, ?_⟩, h.hG, ?_⟩⟩, ⟨_, a2.cell (i := k) (by rw [List.getElem?_toArray, List.getElem?_eq_getElem (by omega)])⟩, a2.frozen, a2.lt⟩
  · have e : boxesOf (rs.take (k + 1)) = boxesOf (rs.take k) ++ [rs[k].box] := by unfold boxesOf; rw [List.take_succ_eq_append_getElem hk, List.map_append]; rfl
    have hlen : (boxesOf (rs.take (k + 1))).length = k + 1 := by unfold boxesOf; rw [List.length_map, List.length_take]; omega
    unfold OwnB
    rw [hlen, e, show boxesC (boxesOf (rs.take k) ++ [rs[k].box]) = boxesC (boxesOf (rs.take k)) ++ boxC rs[k].box by simp [boxesC]]
    exact row_other q1 ⟨G, k, none⟩ _ (row_ne q1 a3 (by decide))
  · exact row_other q2 ⟨G, k, none⟩ _ (row_ne q2 a3 (by decide))
  · have := a3.set k (.int .i64 k)
    simpa using this
  · rw [List.take_succ_eq_append_getElem (by rw [List.length_set]; omega), List.take_set_of_le (Nat.le_refl _), k3, List.getElem_set_self]
    unfold numC
    rw [List.range_succ, List.map_append]; rfl
  · refine ((h.only.grown hg (fun j hj hl => ?_)).setCell _ _ (fun _ => rfl)).setCell _ _ (fun hl => ?_)
    · have := (h.box.lt j hj).1; omega
    · have := h.hG; simp only at hl; omega
end Go.Proofs.Ytljliopmphaoeaa
