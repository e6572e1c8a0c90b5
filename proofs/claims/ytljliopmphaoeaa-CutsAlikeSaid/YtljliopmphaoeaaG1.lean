/- grow: the node of a box and some rules, and all below it. -/
import Derived.Test.YtljliopmphaoeaaW6
import Derived.BigRegion
import Derived.Deep.MidRow
namespace Go.Proofs.Ytljliopmphaoeaa
open Go Go.RowKit Go.Proofs.Ytljliopmphaoeaa.Q

theorem fill20 {V : World} {g : Nat} {T : TypeId} {y0 y1 y2 y3 y4 y5 y6 y7 y8 y9 y10 y11 y12 y13 y14 y15 y16 y17 y18 y19 v0 v1 v2 v3 v4 v5 v6 v7 v8 v9 v10 v11 v12 v13 v14 v15 v16 v17 v18 v19 : Value} (h : Blk V g #[y0, y1, y2, y3, y4, y5, y6, y7, y8, y9, y10, y11, y12, y13, y14, y15, y16, y17, y18, y19] T) : Blk ((((((((((((((((((((V.setCell ⟨g, 0, none⟩ (v0)).setCell ⟨g, 1, none⟩ (v1)).setCell ⟨g, 2, none⟩ (v2)).setCell ⟨g, 3, none⟩ (v3)).setCell ⟨g, 4, none⟩ (v4)).setCell ⟨g, 5, none⟩ (v5)).setCell ⟨g, 6, none⟩ (v6)).setCell ⟨g, 7, none⟩ (v7)).setCell ⟨g, 8, none⟩ (v8)).setCell ⟨g, 9, none⟩ (v9)).setCell ⟨g, 10, none⟩ (v10)).setCell ⟨g, 11, none⟩ (v11)).setCell ⟨g, 12, none⟩ (v12)).setCell ⟨g, 13, none⟩ (v13)).setCell ⟨g, 14, none⟩ (v14)).setCell ⟨g, 15, none⟩ (v15)).setCell ⟨g, 16, none⟩ (v16)).setCell ⟨g, 17, none⟩ (v17)).setCell ⟨g, 18, none⟩ (v18)).setCell ⟨g, 19, none⟩ (v19)) g #[v0, v1, v2, v3, v4, v5, v6, v7, v8, v9, v10, v11, v12, v13, v14, v15, v16, v17, v18, v19] T := by
  have k := (((((((((((((((((((((h.set 0 v0).set 1 v1).set 2 v2).set 3 v3).set 4 v4).set 5 v5).set 6 v6).set 7 v7).set 8 v8).set 9 v9).set 10 v10).set 11 v11).set 12 v12).set 13 v13).set 14 v14).set 15 v15).set 16 v16).set 17 v17).set 18 v18).set 19 v19))
  simp only [List.setIfInBounds_toArray, List.set_cons_zero, List.set_cons_succ] at k
  exact k
theorem fill22 {W V' : World} {P Q : Nat} {T U : TypeId} {a0 a1 p q y0 y1 y2 y3 y4 y5 y6 y7 y8 y9 y10 y11 y12 y13 y14 y15 y16 y17 y18 y19 v0 v1 v2 v3 v4 v5 v6 v7 v8 v9 v10 v11 v12 v13 v14 v15 v16 v17 v18 v19 : Value} (h1 : Blk W P #[a0, a1] T) (h2 : Blk W Q #[y0, y1, y2, y3, y4, y5, y6, y7, y8, y9, y10, y11, y12, y13, y14, y15, y16, y17, y18, y19] U) (hne : P ≠ Q) (hV : ((((((((((((((((((((((W.setCell ⟨P, 0, none⟩ (p)).setCell ⟨P, 1, none⟩ (q)).setCell ⟨Q, 0, none⟩ (v0)).setCell ⟨Q, 1, none⟩ (v1)).setCell ⟨Q, 2, none⟩ (v2)).setCell ⟨Q, 3, none⟩ (v3)).setCell ⟨Q, 4, none⟩ (v4)).setCell ⟨Q, 5, none⟩ (v5)).setCell ⟨Q, 6, none⟩ (v6)).setCell ⟨Q, 7, none⟩ (v7)).setCell ⟨Q, 8, none⟩ (v8)).setCell ⟨Q, 9, none⟩ (v9)).setCell ⟨Q, 10, none⟩ (v10)).setCell ⟨Q, 11, none⟩ (v11)).setCell ⟨Q, 12, none⟩ (v12)).setCell ⟨Q, 13, none⟩ (v13)).setCell ⟨Q, 14, none⟩ (v14)).setCell ⟨Q, 15, none⟩ (v15)).setCell ⟨Q, 16, none⟩ (v16)).setCell ⟨Q, 17, none⟩ (v17)).setCell ⟨Q, 18, none⟩ (v18)).setCell ⟨Q, 19, none⟩ (v19)).drew = V') :
    Blk V' P #[p, q] T ∧ Blk V' Q #[v0, v1, v2, v3, v4, v5, v6, v7, v8, v9, v10, v11, v12, v13, v14, v15, v16, v17, v18, v19] U ∧ Only W V' (fun k => k = P ∨ k = Q) := by
  subst hV
  have k1 : Blk ((W.setCell ⟨P, 0, none⟩ p).setCell ⟨P, 1, none⟩ q) P #[p, q] T := by
    have k := (h1.set 0 p).set 1 q
    simp only [List.setIfInBounds_toArray, List.set_cons_zero, List.set_cons_succ] at k
    exact k
  have k2 : Blk ((W.setCell ⟨P, 0, none⟩ p).setCell ⟨P, 1, none⟩ q) Q #[y0, y1, y2, y3, y4, y5, y6, y7, y8, y9, y10, y11, y12, y13, y14, y15, y16, y17, y18, y19] U := (h2.other _ hne.symm).other _ hne.symm
  refine ⟨?_, Blk.drew (fill20 k2), ?_⟩
  · refine Blk.drew ?_
    iterate 20 refine Blk.other ?_ _ hne
    exact k1
  · refine Only.drew ?_
    iterate 20 refine Only.setCell ?_ _ _ (fun _ => .inr rfl)
    iterate 2 refine Only.setCell ?_ _ _ (fun _ => .inl rfl)
    exact Only.refl _ _

/-- an engine in memory -/
def EngAt (W : World) (E : Nat) (c : Cfg) (tv lv bv nv : Value) (en : Nat) : Prop := Blk W E #[.int .i64 c.max, .int .i64 c.dflt, .int .i64 c.prune, .int .i64 c.grid, .int .i64 c.tuple, .int .i64 c.binth, .int .i64 c.depth, tv, lv, bv, nv, .int .i64 en] 85
/-- the best cut so far -/
structure BestI (W1 : World) (P : Nat) (bs : List Bx) (b : Bx) (l : List Nat) (k : Nat) (lv : Value) (most sum : Int) (W : World) : Prop where
  below : Below W1.heap.size W1 W
  pq : ∃ a0 a1 y0 y1 y2 y3 y4 y5 y6 y7 y8 y9 y10 y11 y12 y13 y14 y15 y16 y17 y18 y19, Blk W P #[a0, a1] 134 ∧ Blk W (P + 1) #[y0, y1, y2, y3, y4, y5, y6, y7, y8, y9, y10, y11, y12, y13, y14, y15, y16, y17, y18, y19] 135
  st : (lv = .nilFunc ∧ most = l.length + 1 ∧ sum = 0 ∧ ∀ j, j < k → NoCut j b) ∨
    (∃ x y f p q, CutOk b x y f ∧ LowAt W lv f ∧ Blk W P #[p, q] 134 ∧ Blk W (P + 1) #[.int .u32 x.src.lo, .int .u32 x.src.hi, .int .u32 x.dst.lo, .int .u32 x.dst.hi, .int .u16 x.sp.lo, .int .u16 x.sp.hi, .int .u16 x.dp.lo, .int .u16 x.dp.hi, .int .u8 x.pr.v, .int .u8 x.pr.c, .int .u32 y.src.lo, .int .u32 y.src.hi, .int .u32 y.dst.lo, .int .u32 y.dst.hi, .int .u16 y.sp.lo, .int .u16 y.sp.hi, .int .u16 y.dp.lo, .int .u16 y.dp.hi, .int .u8 y.pr.v, .int .u8 y.pr.c] 135 ∧ OwnN W 0 p (insideI bs x l) ∧ OwnN W 0 q (insideI bs y l) ∧ 0 ≤ most ∧ most ≤ 1000 ∧ 0 ≤ sum ∧ sum ≤ 1000)
theorem OwnN.below {W W' : World} {base : Nat} {v : Value} {l : List Nat} (h : OwnN W base v l) (hb : Below W.heap.size W W') : OwnN W' base v l := ownsRow_below h hb fun g hg => (h.lt g hg).2
theorem BestI.move {W1 : World} {P : Nat} {bs : List Bx} {b : Bx} {l : List Nat} {k : Nat} {lv : Value} {most sum : Int} {W W' : World} (h : BestI W1 P bs b l k lv most sum W) (hb : Below W.heap.size W W') : BestI W1 P bs b l k lv most sum W' := by
  refine ⟨beyond h.below hb, ?_, ?_⟩
  · obtain ⟨a0, a1, y0, y1, y2, y3, y4, y5, y6, y7, y8, y9, y10, y11, y12, y13, y14, y15, y16, y17, y18, y19, h1, h2⟩ := h.pq
    exact ⟨a0, a1, y0, y1, y2, y3, y4, y5, y6, y7, y8, y9, y10, y11, y12, y13, y14, y15, y16, y17, y18, y19, h1.below hb h1.lt, h2.below hb h2.lt⟩
  · rcases h.st with h1 | ⟨x, y, f, p, q, h1, h2, h3, h4, h5, h6, h7⟩
    · exact .inl h1
    · exact .inr ⟨x, y, f, p, q, h1, h2.below hb, h3.below hb h3.lt, h4.below hb h4.lt, h5.below hb, h6.below hb, h7⟩
theorem BestI.no {W1 : World} {P : Nat} {bs : List Bx} {b : Bx} {l : List Nat} {k : Nat} {lv : Value} {most sum : Int} {W : World} (h : BestI W1 P bs b l k lv most sum W) (hn : NoCut k b) : BestI W1 P bs b l (k + 1) lv most sum W := by
  refine ⟨h.below, h.pq, ?_⟩
  rcases h.st with ⟨h1, h2, h3, h4⟩ | h1
  · refine .inl ⟨h1, h2, h3, fun j hj => ?_⟩
    by_cases e : j = k
    · rw [e]; exact hn
    · exact h4 j (by omega)
  · exact .inr h1
theorem infoNode : (Try.prog.info? 90).map (fun i => (i.zero, i.size, i.bytes)) = some (some (.agg #[.nilFunc, .int .i64 0, .int .i64 0, .slice none 0 0]), 4, 48) := by kernel_rfl
/-- what is known where grow is called, and behind it -/
structure GrowI (W : World) (E S base : Nat) (c : Cfg) (tv lv bv nv : Value) (en : Nat) (bs : List Bx) (ns : List Nd) : Prop where
  eng : EngAt W E c tv lv bv nv en
  box : OwnB W 0 bv bs
  ways : WaysAt W S
  nds : OwnD W base nv ns
  hE : E < base
  hb : base ≤ W.heap.size
  en : en ≤ ns.length * bs.length
theorem GrowI.below {W W' : World} {E S base : Nat} {c : Cfg} {tv lv bv nv : Value} {en : Nat} {bs : List Bx} {ns : List Nd} (h : GrowI W E S base c tv lv bv nv en bs ns) (hb : Below W.heap.size W W') : GrowI W' E S base c tv lv bv nv en bs ns := by
  have k := KeptN.below (E := E) (base := base) hb
  exact ⟨Blk.below h.eng hb (Blk.lt h.eng), k.row h.eng h.box (by decide) (by decide), k.ways h.eng h.ways, ownsRow_below h.nds hb fun g hg => (h.nds.lt g hg).2, h.hE, Nat.le_trans h.hb hb.size, h.en⟩
def GrowP (W : World) (E S base : Nat) (c : Cfg) (tv lv bv : Value) (bs : List Bx) (ns : List Nd) (B D f i : Nat) (b : Bx) (l : List Nat) (d : Nat) (w' : World) : Prop :=
  ∃ nv' ns' en', GrowI w' E S base c tv lv bv nv' en' bs (ns ++ ns') ∧ Tree w' (ns ++ ns') bs B D i b l d ∧ 1 ≤ ns'.length ∧ ns'.length + 1 ≤ 2 ^ (f + 1) ∧ KeptN E base W w'
theorem row_at {W : World} {base size n : Nat} {e : TypeId} {v : Value} {xs : List Value} (h : W.ownsRow base e size v n xs) : ∀ k, v.ownBlock = some k → base ≤ k ∧ ∃ cs, W.heap[k]? = some (.cells cs e (0, 0)) := by
  intro k hk
  rcases h.2 with ⟨rfl, _⟩ | ⟨g, cap, cur, rfl, h2, h3, _⟩
  · cases hk
  · simp only [Value.ownBlock, Option.some.injEq] at hk
    subst hk
    exact ⟨h2, _, h3⟩
theorem row_other {W : World} {base size n : Nat} {e : TypeId} {v : Value} {xs : List Value} (h : W.ownsRow base e size v n xs) (a : Addr) (u : Value) (hne : some a.block ≠ v.ownBlock) : (W.setCell a u).ownsRow base e size v n xs := by
  obtain ⟨h1, h2⟩ := h
  refine ⟨h1, ?_⟩
  rcases h2 with h2 | ⟨g, cap, cur, rfl, r2, r3, r⟩
  · exact .inl h2
  · exact .inr ⟨g, cap, cur, rfl, r2, Blk.other (W := W) (B := g) r3 u (fun e => hne (by rw [e]; rfl)), r⟩
theorem KeptN.grown {E base : Nat} {w w1 : World} {row : Option Nat} (hg : w.grownBy w1 row) (hr : ∀ k, row = some k → base ≤ k ∧ ∃ cs, w.heap[k]? = some (.cells cs 90 (0, 0))) : KeptN E base w w1 :=
  ⟨hg.os, hg.tape, hg.output, hg.size, fun k hk _ hT => hg.block k hk fun e => by
    obtain ⟨h1, cs, h2⟩ := hr k e.symm
    rcases hT with h3 | h3
    · omega
    · exact h3 cs h2⟩
theorem KeptN.setE (E base : Nat) (w : World) (i : Nat) (u : Value) : KeptN E base w (w.setCell ⟨E, i, none⟩ u) :=
  KeptN.only ((Only.refl w (fun k => k = E)).setCell _ _ (fun _ => rfl)) (fun _ _ h => .inl h)
theorem KeptN.setN {E base g : Nat} {w : World} (hb : base ≤ g) (hg : ∃ cs, w.heap[g]? = some (.cells cs 90 (0, 0))) (i : Nat) (u : Value) : KeptN E base w (w.setCell ⟨g, i, none⟩ u) :=
  KeptN.only ((Only.refl w (fun k => k = g)).setCell _ _ (fun _ => rfl)) (fun k _ h => by subst h; exact .inr ⟨hb, hg⟩)
section
variable {W w2 : World} {E S base : Nat} {c : Cfg} {tv lv bv nv : Value} {en : Nat} {bs : List Bx} {ns : List Nd}
/-- a node is laid behind the others -/
theorem grow_push {M : World} {v1 : Value} (hG : GrowI M E S base c tv lv bv nv en bs ns) (hg : M.grownBy w2 nv.ownBlock) (hown : w2.ownsRow base 90 4 v1 (ns.length + 1) (ndsC ns ++ ndC Nd.zero)) :
    GrowI (w2.setCell ⟨E, 10, none⟩ v1) E S base c tv lv bv v1 en bs (ns ++ [Nd.zero]) ∧ KeptN E base M (w2.setCell ⟨E, 10, none⟩ v1) := by
  have k1 : KeptN E base M w2 := KeptN.grown hg (row_at hG.nds)
  have k2 : KeptN E base M (w2.setCell ⟨E, 10, none⟩ v1) := k1.trans (KeptN.setE E base w2 10 v1)
  have e2 : EngAt w2 E c tv lv bv nv en := Blk.kept hG.eng hg (row_ne hG.nds hG.eng (by decide))
  have e3 := Blk.set e2 10 v1
  simp only [List.setIfInBounds_toArray, List.set_cons_zero, List.set_cons_succ] at e3
  refine ⟨⟨e3, k2.row hG.eng hG.box (by decide) (by decide), k2.ways hG.eng hG.ways, ?_, hG.hE, Nat.le_trans hG.hb k2.size, ?_⟩, k2⟩
  · have := row_other hown ⟨E, 10, none⟩ v1 (row_ne hown e2 (by decide))
    unfold OwnD
    rw [List.length_append, ndsC, List.flatMap_append]
    exact this
  · rw [List.length_append]
    exact Nat.le_trans hG.en (Nat.mul_le_mul_right _ (by simp))
theorem grow_first {b : Bx} {o : Obj} {v1 : Value} (hG : GrowI W E S base c tv lv bv nv en bs ns) (hg : ((W.alloc (.cells #[.int .u32 b.src.lo, .int .u32 b.src.hi, .int .u32 b.dst.lo, .int .u32 b.dst.hi, .int .u16 b.sp.lo, .int .u16 b.sp.hi, .int .u16 b.dp.lo, .int .u16 b.dp.hi, .int .u8 b.pr.v, .int .u8 b.pr.c] 109)).alloc o).grownBy w2 nv.ownBlock) (hown : w2.ownsRow base 90 4 v1 (ns.length + 1) (ndsC ns ++ ndC Nd.zero)) :
    ∃ g cp, v1 = .slice (some ⟨g, 0, none⟩) (ns.length + 1) cp ∧ (∀ i, w2.frozen? ⟨E, i, none⟩ = false) ∧ E < w2.heap.size ∧ w2.cell? ⟨E, 10, none⟩ = some nv ∧ Sd (GrowI (w2.setCell ⟨E, 10, none⟩ v1) E S base c tv lv bv v1 en bs (ns ++ [Nd.zero]) ∧ Blk (w2.setCell ⟨E, 10, none⟩ v1) W.heap.size #[.int .u32 b.src.lo, .int .u32 b.src.hi, .int .u32 b.dst.lo, .int .u32 b.dst.hi, .int .u16 b.sp.lo, .int .u16 b.sp.hi, .int .u16 b.dp.lo, .int .u16 b.dp.hi, .int .u8 b.pr.v, .int .u8 b.pr.c] 109 ∧ KeptN E base W (w2.setCell ⟨E, 10, none⟩ v1)) := by
  have hb1 : Below W.heap.size W (W.alloc (.cells #[.int .u32 b.src.lo, .int .u32 b.src.hi, .int .u32 b.dst.lo, .int .u32 b.dst.hi, .int .u16 b.sp.lo, .int .u16 b.sp.hi, .int .u16 b.dp.lo, .int .u16 b.dp.hi, .int .u8 b.pr.v, .int .u8 b.pr.c] 109)) := below_alloc (Below.refl _ _) _
  have hb2 : Below (W.alloc (.cells #[.int .u32 b.src.lo, .int .u32 b.src.hi, .int .u32 b.dst.lo, .int .u32 b.dst.hi, .int .u16 b.sp.lo, .int .u16 b.sp.hi, .int .u16 b.dp.lo, .int .u16 b.dp.hi, .int .u8 b.pr.v, .int .u8 b.pr.c] 109)).heap.size (W.alloc (.cells #[.int .u32 b.src.lo, .int .u32 b.src.hi, .int .u32 b.dst.lo, .int .u32 b.dst.hi, .int .u16 b.sp.lo, .int .u16 b.sp.hi, .int .u16 b.dp.lo, .int .u16 b.dp.hi, .int .u8 b.pr.v, .int .u8 b.pr.c] 109)) ((W.alloc (.cells #[.int .u32 b.src.lo, .int .u32 b.src.hi, .int .u32 b.dst.lo, .int .u32 b.dst.hi, .int .u16 b.sp.lo, .int .u16 b.sp.hi, .int .u16 b.dp.lo, .int .u16 b.dp.hi, .int .u8 b.pr.v, .int .u8 b.pr.c] 109)).alloc o) := below_alloc (Below.refl _ _) _
  have hGM := (hG.below hb1).below hb2
  obtain ⟨h1, h2⟩ := grow_push hGM hg hown
  obtain ⟨g, cp, e⟩ := ownsRow_succ hown
  have hE2 := Blk.kept hGM.eng hg (row_ne hGM.nds hGM.eng (by decide))
  exact ⟨g, cp, e, Blk.frozen hE2, Blk.lt hE2, Blk.cell hE2 (i := 10) rfl, ⟨h1, h2.blk hGM.eng ((Blk.new W #[.int .u32 b.src.lo, .int .u32 b.src.hi, .int .u32 b.dst.lo, .int .u32 b.dst.hi, .int .u16 b.sp.lo, .int .u16 b.sp.hi, .int .u16 b.dp.lo, .int .u16 b.dp.hi, .int .u8 b.pr.v, .int .u8 b.pr.c] 109).alloc o) (by decide) (by decide), ((KeptN.below hb1).trans (KeptN.below hb2)).trans h2⟩⟩
/-- a node's cell is written -/
theorem grow_set {g n cp : Nat} (hG : GrowI W E S base c tv lv bv (.slice (some ⟨g, 0, none⟩) n cp) en bs ns) (k : Nat) (hk : k < ns.length) (i : Nat) (hi : i < 4) (nd : Nd) (u : Value) (he : ndC nd = (ndC ns[k]).set i u) :
    GrowI (W.setCell ⟨g, k * 4 + i, none⟩ u) E S base c tv lv bv (.slice (some ⟨g, 0, none⟩) n cp) en bs (ns.set k nd) ∧ KeptN E base W (W.setCell ⟨g, k * 4 + i, none⟩ u) := by
  obtain ⟨h1, h2⟩ := row_at hG.nds g rfl
  have k2 : KeptN E base W (W.setCell ⟨g, k * 4 + i, none⟩ u) := KeptN.setN h1 h2 _ u
  have hne : E ≠ g := fun e => row_ne hG.nds hG.eng (by decide) (by rw [e]; rfl)
  exact ⟨⟨Blk.other hG.eng _ hne, k2.row hG.eng hG.box (by decide) (by decide), k2.ways hG.eng hG.ways, OwnD.set hG.nds k hk i hi nd u he, hG.hE, Nat.le_trans hG.hb k2.size, by rw [List.length_set]; exact hG.en⟩, k2⟩
theorem grow_en (hG : GrowI W E S base c tv lv bv nv en bs ns) (e2 : Nat) (h : e2 ≤ ns.length * bs.length) :
    GrowI (W.setCell ⟨E, 11, none⟩ (.int .i64 e2)) E S base c tv lv bv nv e2 bs ns ∧ KeptN E base W (W.setCell ⟨E, 11, none⟩ (.int .i64 e2)) := by
  have k2 := KeptN.setE E base W 11 (.int .i64 e2)
  have e3 := Blk.set hG.eng 11 (.int .i64 e2)
  simp only [List.setIfInBounds_toArray, List.set_cons_zero, List.set_cons_succ] at e3
  exact ⟨⟨e3, k2.row hG.eng hG.box (by decide) (by decide), k2.ways hG.eng hG.ways, row_other hG.nds _ _ (row_ne hG.nds hG.eng (by decide)), hG.hE, Nat.le_trans hG.hb k2.size, h⟩, k2⟩
end
theorem OwnD.at {W : World} {base g n cap : Nat} {ns : List Nd} (h : OwnD W base (.slice (some ⟨g, 0, none⟩) n cap) ns) (k : Nat) (hk : k < ns.length) : base ≤ g ∧ g < W.heap.size ∧ (∀ i, W.frozen? ⟨g, i, none⟩ = false) ∧
    W.cell? ⟨g, k * 4, none⟩ = some ns[k].low ∧ W.cell? ⟨g, k * 4 + 1, none⟩ = some (.int .i64 ns[k].k0) ∧ W.cell? ⟨g, k * 4 + 2, none⟩ = some (.int .i64 ns[k].k1) ∧ W.cell? ⟨g, k * 4 + 3, none⟩ = some ns[k].list := by
  obtain ⟨g', cap', e, h1, h2, h3, h4, h5, h6, h7, _⟩ := h.node k hk
  have : g = g' := by injection e with e1 e2 e3; injection e1 with e1; injection e1
  subst this
  exact ⟨h1, h2, h3, h4, h5, h6, h7⟩
theorem OwnB.at {W : World} {base n cap : Nat} {A : Option Addr} {bs : List Bx} (h : OwnB W base (.slice A n cap) bs) : BoxesAt W A bs := by
  obtain ⟨A', cap', e, h2⟩ := h.slice
  injection e with e1 e2 e3
  rw [e1]; exact h2
theorem OwnN.at {W : World} {base n cap : Nat} {A : Option Addr} {l : List Nat} (h : OwnN W base (.slice A n cap) l) : NumsAt W A l := by
  obtain ⟨A', cap', e, h2⟩ := h.slice
  injection e with e1 e2 e3
  rw [e1]; exact h2
theorem ne_size {W : World} {O P : Nat} {c d : Array Value} {T U : TypeId} (h : Blk W O c T) (k : Blk W P d U) (hne : c.size ≠ d.size) : O ≠ P := by
  intro e
  subst e
  unfold Blk at h k
  rw [h] at k
  injection k with k
  injection k with k1 k2 k3
  exact hne (by rw [k1])
theorem LowAt.keep {W W' : World} {v : Value} {f : Hdr → Bool} (hk : ∀ k u T, Blk W k #[u] T → Blk W' k #[u] T) (h : LowAt W v f) : LowAt W' v f := by
  have h1 : ∀ {a : Nat} {u : Value}, One W a u → One W' a u := fun ⟨T, k1, k2⟩ => ⟨T, hk _ _ _ k1, k2⟩
  have hr : ∀ {fn g : FuncId} {mv : Value} {T : TypeId}, LowR W v fn g mv T → LowR W' v fn g mv T := fun ⟨O, M, k1, k2, k3⟩ => ⟨O, M, k1, h1 k2, hk _ _ _ k3⟩
  rcases h with ⟨m, k1, k2⟩ | ⟨m, k1, k2⟩ | ⟨m, k1, k2⟩ | ⟨m, k1, k2⟩ | ⟨b, M, k1, k2, k3, k4⟩
  · exact .inl ⟨m, hr k1, k2⟩
  · exact .inr (.inl ⟨m, hr k1, k2⟩)
  · exact .inr (.inr (.inl ⟨m, hr k1, k2⟩))
  · exact .inr (.inr (.inr (.inl ⟨m, hr k1, k2⟩)))
  · exact .inr (.inr (.inr (.inr ⟨b, M, k1, k2, hk _ _ _ k3, k4⟩)))
theorem row_only {W W' : World} {S : Nat → Prop} {base size n : Nat} {e : TypeId} {v : Value} {xs : List Value} (h : W.ownsRow base e size v n xs) (ho : Only W W' S) (hS : ∀ k, v.ownBlock = some k → ¬ S k) : W'.ownsRow base e size v n xs := by
  obtain ⟨h1, h2⟩ := h
  refine ⟨h1, ?_⟩
  rcases h2 with h2 | ⟨g, cap, cur, rfl, r2, r3, r⟩
  · exact .inl h2
  · exact .inr ⟨g, cap, cur, rfl, r2, (ho.block g (Array.getElem?_eq_some_iff.1 r3).1 (hS g rfl)).trans r3, r⟩
theorem sum_small {a b : Nat} (ha : a ≤ 64) (hb : b ≤ 64) : 0 ≤ max (a : Int) (b : Int) ∧ max (a : Int) (b : Int) ≤ 1000 ∧ 0 ≤ (a : Int) + (b : Int) ∧ (a : Int) + (b : Int) ≤ 1000 := by omega
theorem max_le_len {a b n : Nat} (ha : a ≤ n) (hb : b ≤ n) : max (a : Int) (b : Int) ≤ n := by omega
theorem fill2Box (a0 a1 a2 a3 a4 a5 a6 a7 a8 a9 b0 b1 b2 b3 b4 b5 b6 b7 b8 b9 : Value) : Instr.fill (fun i => some (i * 10, 10)) #[.int .u32 0, .int .u32 0, .int .u32 0, .int .u32 0, .int .u16 0, .int .u16 0, .int .u16 0, .int .u16 0, .int .u8 0, .int .u8 0, .int .u32 0, .int .u32 0, .int .u32 0, .int .u32 0, .int .u16 0, .int .u16 0, .int .u16 0, .int .u16 0, .int .u8 0, .int .u8 0] [(0, .agg #[a0, a1, a2, a3, a4, a5, a6, a7, a8, a9]), (1, .agg #[b0, b1, b2, b3, b4, b5, b6, b7, b8, b9])] = some #[a0, a1, a2, a3, a4, a5, a6, a7, a8, a9, b0, b1, b2, b3, b4, b5, b6, b7, b8, b9] := by simp [Instr.fill, Value.cells]
/-- the kids that are made -/
def KidsI (w5 : World) (E S base : Nat) (c : Cfg) (tv lv bv : Value) (bs : List Bx) (ns : List Nd) (B D F d : Nat) (x y : Bx) (lx ly : List Nat) (low : Value) (i : Nat) (W : World) : Prop :=
  ∃ nv r k0 k1 en, GrowI W E S base c tv lv bv nv en bs (ns ++ ((⟨low, k0, k1, .slice none 0 0⟩ : Nd) :: r)) ∧ KeptN E base w5 W ∧ r.length + i ≤ i * F ∧
    (1 ≤ i → ns.length < k0 ∧ Tree W (ns ++ ((⟨low, k0, k1, .slice none 0 0⟩ : Nd) :: r)) bs B D k0 x lx (d + 1)) ∧ (2 ≤ i → ns.length < k1 ∧ Tree W (ns ++ ((⟨low, k0, k1, .slice none 0 0⟩ : Nd) :: r)) bs B D k1 y ly (d + 1))
theorem get_after {ns r s : List Nd} {n n' nd : Nd} {j : Nat} (hj : ns.length < j) (h : (ns ++ (n :: r))[j]? = some nd) : (ns ++ (n' :: (r ++ s)))[j]? = some nd := by
  rw [List.getElem?_append_right (by omega)] at h ⊢
  obtain ⟨m, hm⟩ : ∃ m, j - ns.length = m + 1 := ⟨j - ns.length - 1, by omega⟩
  rw [hm, List.getElem?_cons_succ] at h ⊢
  rw [List.getElem?_append_left (List.getElem?_eq_some_iff.1 h).1]
  exact h
section
variable {w5 W w' : World} {E S base : Nat} {c : Cfg} {tv lv bv nv : Value} {bs : List Bx} {ns r s : List Nd} {B D F d f : Nat} {x y b : Bx} {lx ly l : List Nat} {low : Value} {k0 k1 en en' g n cp : Nat}
theorem OwnD.open {v : Value} (h : OwnD W base v ns) (hn : 0 < ns.length) : ∃ g cp, v = .slice (some ⟨g, 0, none⟩) ns.length cp := by
  obtain ⟨g, cp, h1, _⟩ := row_cells h hn
  exact ⟨g, cp, h1⟩
theorem kids_zero (hG : GrowI W E S base c tv lv bv nv en bs (ns ++ [⟨low, 0, 0, .slice none 0 0⟩])) : KidsI W E S base c tv lv bv bs ns B D F d x y lx ly low 0 W :=
  ⟨nv, [], 0, 0, en, hG, KeptN.refl _ _ _, by simp, by omega, by omega⟩
theorem kids_one (hK : KeptN E base w5 w') (hG : GrowI w' E S base c tv lv bv (.slice (some ⟨g, 0, none⟩) n cp) en' bs (ns ++ ((⟨low, k0, k1, .slice none 0 0⟩ : Nd) :: s)))
    (hT : Tree w' (ns ++ ((⟨low, k0, k1, .slice none 0 0⟩ : Nd) :: s)) bs B D (ns.length + 1) x lx (d + 1)) (hs : s.length + 1 ≤ F) :
    KidsI w5 E S base c tv lv bv bs ns B D F d x y lx ly low 1 (w'.setCell ⟨g, ns.length * 4 + 1, none⟩ (.int .i64 ((ns.length + 1 : Nat) : Int))) := by
  obtain ⟨g1, g2⟩ := grow_set hG ns.length (by simp) 1 (by omega) ⟨low, ns.length + 1, k1, .slice none 0 0⟩ (.int .i64 ((ns.length + 1 : Nat) : Int)) (by simp [ndC])
  have e : (ns ++ ((⟨low, k0, k1, .slice none 0 0⟩ : Nd) :: s)).set ns.length ⟨low, ns.length + 1, k1, .slice none 0 0⟩ = ns ++ ((⟨low, ns.length + 1, k1, .slice none 0 0⟩ : Nd) :: s) := by simp
  rw [e] at g1
  refine ⟨_, s, ns.length + 1, k1, _, g1, hK.trans g2, by omega, fun _ => ⟨by omega, (hT.kept hG.eng g2).mono fun j nd hj h => ?_⟩, by omega⟩
  have := get_after (s := []) (n' := (⟨low, ns.length + 1, k1, .slice none 0 0⟩ : Nd)) (by omega) h
  simpa using this
theorem kids_two (hK0 : KeptN E base w5 W) (hG0 : GrowI W E S base c tv lv bv nv en bs (ns ++ ((⟨low, k0, k1, .slice none 0 0⟩ : Nd) :: r))) (hT0 : Tree W (ns ++ ((⟨low, k0, k1, .slice none 0 0⟩ : Nd) :: r)) bs B D k0 x lx (d + 1)) (hk0 : ns.length < k0) (hr : r.length + 1 ≤ F)
    (hK : KeptN E base W w') (hG : GrowI w' E S base c tv lv bv (.slice (some ⟨g, 0, none⟩) n cp) en' bs (ns ++ ((⟨low, k0, k1, .slice none 0 0⟩ : Nd) :: r) ++ s))
    (hT : Tree w' (ns ++ ((⟨low, k0, k1, .slice none 0 0⟩ : Nd) :: r) ++ s) bs B D (ns ++ ((⟨low, k0, k1, .slice none 0 0⟩ : Nd) :: r)).length y ly (d + 1)) (hs : s.length + 1 ≤ F) :
    KidsI w5 E S base c tv lv bv bs ns B D F d x y lx ly low 2 (w'.setCell ⟨g, ns.length * 4 + 2, none⟩ (.int .i64 (((ns ++ ((⟨low, k0, k1, .slice none 0 0⟩ : Nd) :: r)).length : Nat) : Int))) := by
  generalize hm : (ns ++ ((⟨low, k0, k1, .slice none 0 0⟩ : Nd) :: r)).length = m at hT ⊢
  have hm1 : ns.length < m := by rw [← hm]; simp
  rw [List.append_assoc, List.cons_append] at hG hT
  obtain ⟨g1, g2⟩ := grow_set hG ns.length (by simp) 2 (by omega) ⟨low, k0, m, .slice none 0 0⟩ (.int .i64 (m : Int)) (by simp [ndC])
  have e : (ns ++ ((⟨low, k0, k1, .slice none 0 0⟩ : Nd) :: (r ++ s))).set ns.length ⟨low, k0, m, .slice none 0 0⟩ = ns ++ ((⟨low, k0, m, .slice none 0 0⟩ : Nd) :: (r ++ s)) := by simp
  rw [e] at g1
  refine ⟨_, r ++ s, k0, m, _, g1, (hK0.trans hK).trans g2, by rw [List.length_append]; omega, fun _ => ⟨hk0, ((hT0.kept hG0.eng hK).kept hG.eng g2).mono fun j nd hj h => get_after (by omega) h⟩, fun _ => ⟨hm1, (hT.kept hG.eng g2).mono fun j nd hj h => ?_⟩⟩
  have := get_after (s := []) (n' := (⟨low, k0, m, .slice none 0 0⟩ : Nd)) (by omega) h
  simpa using this
theorem kids_done {W0 : World} {es : Array Value} (h : KidsI w5 E S base c tv lv bv bs ns B D (2 ^ f) d x y (insideI bs x l) (insideI bs y l) low 2 W) (hK : KeptN E base W0 w5) (he : Blk w5 E es 85) {fw : Hdr → Bool} (hc : CutOk b x y fw) (hl : LowAt w5 low fw) (hd : d < D) :
    GrowP W0 E S base c tv lv bv bs ns B D f ns.length b l d W := by
  obtain ⟨nv, r, k0, k1, en, h1, h2, h3, h4, h5⟩ := h
  obtain ⟨a1, a2⟩ := h4 (by omega)
  obtain ⟨a3, a4⟩ := h5 (by omega)
  exact ⟨nv, _, en, h1, .cut ns.length b l d ⟨low, k0, k1, .slice none 0 0⟩ fw x y (by simp) (h2.low he hl) hc ⟨a1, a3⟩ hd a2 a4, by simp, by simp only [List.length_cons]; rw [Nat.pow_succ]; omega, hK.trans h2⟩
end
/-- one of three steps -/
def Tri (i : Int) (P : Nat → Prop) : Prop := (i = 0 ∧ P 0) ∨ (i = 1 ∧ P 1) ∨ (i = 2 ∧ P 2)
/-! ### a store of twenty cells: the walk's own is too dear for the kernel -/
/-- a block of twenty cells -/
def Row20 (W : World) (b : Nat) : Prop := ∃ cs T, W.heap[b]? = some (.cells cs T (0, 0)) ∧ cs.size = 20
theorem row20_setCell (W : World) (a : Addr) (v : Value) (b : Nat) : Row20 (W.setCell a v) b = Row20 W b := by
  apply propext
  unfold Row20
  show (∃ cs T, (W.heap.modify a.block _)[b]? = _ ∧ _) ↔ _
  rw [Array.getElem?_modify]
  by_cases h : a.block = b
  · subst h
    rw [if_pos rfl]
    constructor
    · rintro ⟨cs, T, h1, h2⟩
      cases ho : W.heap[a.block]? with
      | none => rw [ho] at h1; cases h1
      | some o =>
        rw [ho] at h1
        cases o with
        | cells cs0 T0 fz =>
          simp at h1
          obtain ⟨h3, h4, h5⟩ := h1
          exact ⟨cs0, T0, by rw [h5], by rw [← h3] at h2; split at h2 <;> simpa using h2⟩
        | _ => simp at h1
    · rintro ⟨cs, T, h1, h2⟩
      rw [h1]
      refine ⟨_, _, rfl, ?_⟩
      split <;> simpa using h2
  · rw [if_neg h]
theorem row20_drew (W : World) (b : Nat) : Row20 W.drew b = Row20 W b := rfl
theorem Row20.of {W : World} {b : Nat} {cs : Array Value} {T : TypeId} (h : Blk W b cs T) (hs : cs.size = 20) : Row20 W b := ⟨cs, T, h, hs⟩
def put20 (p v : Value) (W : World) : World := match p, v with
  | .pointer (some ⟨b, o, none⟩), .agg cells => W.setCells b o cells.toList
  | _, _ => W
def Room20 (p v : Value) (W : World) : Prop := match p, v with
  | .pointer (some ⟨b, o, none⟩), .agg cells => o = 0 ∧ cells.size = 20 ∧ (∀ u ∈ cells.toList, u.oneCell' = true) ∧ Row20 W b
  | _, _ => False
theorem put20_eq (b : Nat) (W : World) (c0 c1 c2 c3 c4 c5 c6 c7 c8 c9 c10 c11 c12 c13 c14 c15 c16 c17 c18 c19 : Value) : put20 (.pointer (some ⟨b, 0, none⟩)) (.agg #[c0, c1, c2, c3, c4, c5, c6, c7, c8, c9, c10, c11, c12, c13, c14, c15, c16, c17, c18, c19]) W = ((((((((((((((((((((W.setCell ⟨b, 0, none⟩ (c0)).setCell ⟨b, 1, none⟩ (c1)).setCell ⟨b, 2, none⟩ (c2)).setCell ⟨b, 3, none⟩ (c3)).setCell ⟨b, 4, none⟩ (c4)).setCell ⟨b, 5, none⟩ (c5)).setCell ⟨b, 6, none⟩ (c6)).setCell ⟨b, 7, none⟩ (c7)).setCell ⟨b, 8, none⟩ (c8)).setCell ⟨b, 9, none⟩ (c9)).setCell ⟨b, 10, none⟩ (c10)).setCell ⟨b, 11, none⟩ (c11)).setCell ⟨b, 12, none⟩ (c12)).setCell ⟨b, 13, none⟩ (c13)).setCell ⟨b, 14, none⟩ (c14)).setCell ⟨b, 15, none⟩ (c15)).setCell ⟨b, 16, none⟩ (c16)).setCell ⟨b, 17, none⟩ (c17)).setCell ⟨b, 18, none⟩ (c18)).setCell ⟨b, 19, none⟩ (c19)) := rfl
theorem room20_eq (b : Nat) (W : World) (k0 k1 k2 k3 k4 k5 k6 k7 k8 k9 k10 k11 k12 k13 k14 k15 k16 k17 k18 k19 : IntKind) (n0 n1 n2 n3 n4 n5 n6 n7 n8 n9 n10 n11 n12 n13 n14 n15 n16 n17 n18 n19 : Int) : Room20 (.pointer (some ⟨b, 0, none⟩)) (.agg #[.int k0 n0, .int k1 n1, .int k2 n2, .int k3 n3, .int k4 n4, .int k5 n5, .int k6 n6, .int k7 n7, .int k8 n8, .int k9 n9, .int k10 n10, .int k11 n11, .int k12 n12, .int k13 n13, .int k14 n14, .int k15 n15, .int k16 n16, .int k17 n17, .int k18 n18, .int k19 n19]) W = Row20 W b := by
  apply propext
  constructor
  · intro h; exact h.2.2.2
  · intro h
    refine ⟨rfl, rfl, ?_, h⟩
    intro u hu
    simp only [List.mem_cons, List.not_mem_nil, or_false] at hu
    rcases hu with rfl | rfl | rfl | rfl | rfl | rfl | rfl | rfl | rfl | rfl | rfl | rfl | rfl | rfl | rfl | rfl | rfl | rfl | rfl | rfl <;> rfl
theorem store20_aux (b : Nat) (cells : Array Value) (W : World) (h2 : cells.size = 20) (h3 : ∀ u ∈ cells.toList, u.oneCell' = true) (h : Row20 W b) :
    Sem.run Try.prog (Instr.storeAt 135 (.pointer (some ⟨b, 0, none⟩)) (.agg cells)) W = .ok () (W.setCells b 0 cells.toList) := by
  obtain ⟨cs, T, h4, h5⟩ := h
  refine run_storeAt_mid (P := Try.prog) W b 0 135 cells (fun j hj => ?_) (by rw [h2]; kernel_rfl) (Array.all_eq_true_iff_forall_mem.2 (fun v hv => h3 v (by simpa using hv)))
  constructor
  · simp [World.cell?, h4]; omega
  · simp [World.frozen?, h4]
theorem run_store20 (ρ : Operand → Value) (d : Option Tmp) (x y : Operand) (t : TypeId) (p : String) (af : Array Edge) (g : Option (Nat × Bool)) (W : World) (h : Room20 (ρ x) (ρ y) W) :
    Sem.run Try.prog (execOp ρ { dst := d, op := .store 135 x y, type := t, pos := p, after := af, guard := g }) W = .ok .skip (put20 (ρ x) (ρ y) W) := by
  unfold execOp
  simp only []
  generalize ρ x = v1 at *
  generalize ρ y = v2 at *
  unfold Room20 at h
  split at h
  · obtain ⟨rfl, h2, h3, h4⟩ := h
    simp [store20_aux _ _ _ h2 h3 h4, put20]
  · cases h
attribute [local go_sem ↓] run_store20
attribute [local go_sem] put20_eq room20_eq row20_setCell row20_drew
/-- grow, where f levels are left -/
def GrowC (c : Cfg) (tv lv bv : Value) (bs : List Bx) (E S base B D f d : Nat) : Prop :=
  ∀ (W : World) (b : Bx) (l l0 : List Nat) (v nv : Value) (ns : List Nd) (en : Nat), Good b → l = insideI bs b l0 → (∀ i ∈ l, i < bs.length) → l.length ≤ bs.length → GrowI W E S base c tv lv bv nv en bs ns → OwnN W 0 v l → ns.length + 2 ^ (f + 1) ≤ 5000 →
      Calls Try.prog 47 #[.pointer (some ⟨E, 0, none⟩), .agg #[.int .u32 b.src.lo, .int .u32 b.src.hi, .int .u32 b.dst.lo, .int .u32 b.dst.hi, .int .u16 b.sp.lo, .int .u16 b.sp.hi, .int .u16 b.dp.lo, .int .u16 b.dp.hi, .int .u8 b.pr.v, .int .u8 b.pr.c], v, .int .i64 d, .slice (some ⟨S, 0, none⟩) 5 5] W fun e w' => e = .returned (.int .i64 ns.length) ∧ GrowP W E S base c tv lv bv bs ns B D f ns.length b l d w'
set_option maxHeartbeats 2000000 in
set_option maxRecDepth 100000 in
theorem grow_step (c : Cfg) (tv lv bv : Value) (bs : List Bx) (E S base B D : Nat) (hbs : ∀ x ∈ bs, Good x) (hbl : bs.length ≤ 64) (hcb : c.binth = B) (hcd : c.depth = D) (hB1 : 1 ≤ B) (hBM : B ≤ 1000) (hDM : D ≤ 1000)
    (f d : Nat) (hd : d + f = D) (IH : ∀ f', f = f' + 1 → GrowC c tv lv bv bs E S base B D f' (d + 1)) : GrowC c tv lv bv bs E S base B D f d := by
  intro W b l l0 v nv ns en hb hl0 hli hll HG hv hns
  obtain ⟨A, cap, rfl⟩ : ∃ A cap, nv = .slice A ns.length cap := by
    rcases HG.nds.2 with ⟨rfl, h⟩ | ⟨g, cp, cur, rfl, _⟩
    · exact ⟨_, _, by rw [h]⟩
    · exact ⟨_, _, rfl⟩
  obtain ⟨VA, vcap, rfl, _⟩ := hv.slice
  obtain ⟨BA, bcap, rfl, _⟩ := HG.box.slice
  obtain ⟨i0, hi, hz0, hz1, hz2⟩ := info_parts infoNode
  have HI0 := Sd.mk (And.intro hi (And.intro hz0 (And.intro hz1 hz2)))
  have c10 := Blk.cell HG.eng (i := 10) rfl
  have cf := Blk.frozen HG.eng
  have cl := Blk.lt HG.eng
  have HGG := Sd.mk HG
  have HV := Sd.mk hv
  have HIH := Sd.mk IH
  have HBS := Sd.mk hbs
  have HL0 := Sd.mk hl0
  have HLI := Sd.mk hli
  have HCB := Sd.mk (And.intro hcb hcd)
  clear hi hz0 hz1 hz2 HG hv IH hbs hl0 hli hcb hcd
  go_enter Try.func47, Try.ntmps47
  go_upto_region 2 with fail
  go_cut [11] (fun s11 w1 => s11 = .int .i64 ns.length ∧ Sd (∃ g cp, GrowI w1 E S base c tv lv (.slice BA bs.length bcap) (.slice (some ⟨g, 0, none⟩) (ns.length + 1) cp) en bs (ns ++ [Nd.zero]) ∧ Blk w1 W.heap.size #[.int .u32 b.src.lo, .int .u32 b.src.hi, .int .u32 b.dst.lo, .int .u32 b.dst.hi, .int .u16 b.sp.lo, .int .u16 b.sp.hi, .int .u16 b.dp.lo, .int .u16 b.dp.hi, .int .u8 b.pr.v, .int .u8 b.pr.c] 109 ∧ KeptN E base W w1))
  case first =>
    have HNS : Sd (ns.length + 1 ≤ maxLen ∧ (ns.length + 1) * 48 ≤ 140737488355328) := ⟨by have h1 : ns.length ≤ 5000 := Nat.le_trans (Nat.le_add_right _ _) hns; unfold maxLen; omega⟩
    have HONE : Sd (∀ u ∈ ndC Nd.zero, u.oneCell' = true) := ⟨by intro u hu; simp [ndC, Nd.zero] at hu; rcases hu with rfl | rfl | rfl <;> rfl⟩
    have HRW := Sd.mk (World.ownsRow.alloc (World.ownsRow.alloc HGG.out.nds (.cells #[.int .u32 b.src.lo, .int .u32 b.src.hi, .int .u32 b.dst.lo, .int .u32 b.dst.hi, .int .u16 b.sp.lo, .int .u16 b.sp.hi, .int .u16 b.dp.lo, .int .u16 b.dp.hi, .int .u8 b.pr.v, .int .u8 b.pr.c] 109)) (.cells (ndC Nd.zero).toArray 90))
    have HBS0 : Sd (base ≤ W.heap.size + 1 + 1) := ⟨by have := HGG.out.hb; omega⟩
    go_wp2_with (at_builtin; refine wpList_append_own_at _ rfl _ _ 83 rfl base 90 i0 _ 4 48 Try.underlying83 HI0.out.1 HI0.out.2.1 HI0.out.2.2.1 HI0.out.2.2.2 rfl (by decide) (.slice A ns.length cap) ns.length (ndsC ns) rfl HRW.out ⟨W.heap.size + 1, 0, none⟩ 1 1 (ndC Nd.zero) rfl rfl (cells_new _ (ndC Nd.zero) _ (by simp)) HONE.out HNS.out.1 HNS.out.2 (by simpa using HBS0.out) ?_; intro v1 w2 hown2 hg2 _ _; obtain ⟨g, cp, rfl, cfw, clw, c10w, HP⟩ := grow_first HGG.out hg2 hown2; clear hown2 hg2 c10 cf cl)
    go_meet
    exact ⟨rfl, ⟨g, cp, HP.out⟩⟩
  case rest =>
    obtain ⟨rfl, HX⟩ := hcut
    obtain ⟨W1, hW1⟩ : ∃ W1, W1 = wc := ⟨_, rfl⟩
    subst hW1
    obtain ⟨g, cp, hG1, hB1, hK1⟩ := HX.out
    have c5 := Blk.cell hG1.eng (i := 5) rfl
    have c6 := Blk.cell hG1.eng (i := 6) rfl
    have c10 := Blk.cell hG1.eng (i := 10) rfl
    have c11 := Blk.cell hG1.eng (i := 11) rfl
    rw [HCB.out.1] at c5
    rw [HCB.out.2] at c6
    have cf := Blk.frozen hG1.eng
    have cl := Blk.lt hG1.eng
    have hgE : E ≠ g := fun e => row_ne hG1.nds hG1.eng (by decide) (by rw [e]; rfl)
    obtain ⟨_, hgl, hgf, n0, n1, n2, n3⟩ := hG1.nds.at ns.length (by simp)
    have hen := hG1.en
    have hnl : ns.length ≤ 5000 := Nat.le_trans (Nat.le_add_right _ _) hns
    have HN2 := Sd.mk hns
    have hz : (ns ++ [Nd.zero]).length ≤ 5001 := by rw [List.length_append, List.length_singleton]; omega
    have hen2 : en ≤ 1000000 := Nat.le_trans hen (Nat.le_trans (Nat.mul_le_mul hz hbl) (by omega))
    have HG1 := Sd.mk hG1
    have HB1 := Sd.mk hB1
    have HK1 := Sd.mk hK1
    clear hG1 hB1 hK1 HX hen hz hns
    have leaf : (l.length ≤ B ∨ d = D) → GrowP W E S base c tv lv (.slice BA bs.length bcap) bs ns B D f ns.length b l d ((W1.setCell ⟨g, ns.length * 4 + 3, none⟩ (.slice VA l.length vcap)).setCell ⟨E, 11, none⟩ (.int .i64 ((en : Int) + (l.length : Int)))) := fun hlf => by
      obtain ⟨s1, s2⟩ := grow_set HG1.out ns.length (by simp) 3 (by omega) ⟨.nilFunc, 0, 0, .slice VA l.length vcap⟩ (.slice VA l.length vcap) (by simp [ndC, Nd.zero])
      have e0 : (ns ++ [Nd.zero]).set ns.length ⟨.nilFunc, 0, 0, .slice VA l.length vcap⟩ = ns ++ [⟨.nilFunc, 0, 0, .slice VA l.length vcap⟩] := by simp
      rw [e0] at s1
      obtain ⟨s3, s4⟩ := grow_en s1 (en + l.length) (by rw [List.length_append, List.length_singleton, Nat.add_mul, Nat.one_mul]; exact Nat.add_le_add HGG.out.en hll)
      have hk := (HK1.out.trans s2).trans s4
      rw [show ((en : Int) + (l.length : Int)) = ((en + l.length : Nat) : Int) from by push_cast; rfl]
      exact ⟨_, _, _, s3, .leaf _ _ _ _ ⟨.nilFunc, 0, 0, .slice VA l.length vcap⟩ (by simp) rfl (hk.row HGG.out.eng HV.out (by decide) (by decide)) hlf (by omega), by simp, by have := Nat.one_lt_two_pow (n := f + 1) (by omega); simp; omega, hk⟩
    have HLEAF := Sd.mk leaf
    clear leaf
    by_cases h1 : l.length ≤ B
    · go_wp2
      go_ret
      exact ⟨rfl, HLEAF.out (.inl h1)⟩
    · by_cases h2 : d = D
      · have ht : ((d : Int) == (D : Int)) = true := by simp [h2]
        clear h2
        go_wp2
        go_ret
        exact ⟨rfl, HLEAF.out (.inr (by simp at ht; omega))⟩
      · have ht : ((d : Int) == (D : Int)) = false := by simp; omega
        clear HLEAF n0 n1 n2 n3 hgl hgf c11
        go_wp2
        go_loopw [14, 15, 16, 84] (fun lv mv sv iv wr => ∃ (k : Nat) (most sum : Int), k ≤ 5 ∧ iv = .int .i64 k ∧ mv = .int .i64 most ∧ sv = .int .i64 sum ∧ Sd (BestI W1 W1.heap.size bs b l k lv most sum wr)) (fun _ _ _ iv _ => 5 - (intOf iv).toNat)
        case atStart =>
          exact ⟨0, _, _, by omega, rfl, rfl, rfl, ⟨⟨below_alloc (below_alloc (Below.refl _ _) _) _, ⟨_, _, _, _, _, _, _, _, _, _, _, _, _, _, _, _, _, _, _, _, _, _, (Blk.new W1 _ _).alloc _, blkN (X := W1.alloc _) (N := W1.heap.size + 1) (by simp) _ _⟩, .inl ⟨rfl, rfl, rfl, fun j hj => by omega⟩⟩⟩⟩
        case round =>
          obtain ⟨k, most, sum, hk, rfl, rfl, rfl, HI⟩ := hrel
          by_cases hlt : k < 5
          -- R0
          · have hGr := HG1.out.below HI.out.below
            obtain ⟨F, caps, hfv, hcf, HF⟩ := way_any S k hlt wr hGr.ways b hb
            have hBr := HB1.out.below HI.out.below HB1.out.lt
            have hSl := World.block_lt_of_cell? wr _ hfv
            simp only [] at hSl
            have HFF := Sd.mk HF
            obtain ⟨W2, hW2⟩ : ∃ W2, wr.alloc (.cells #[.func (.func F) #[] caps] 138) = W2 := ⟨_, rfl⟩
            have hbW : Below wr.heap.size wr W2 := by rw [← hW2]; exact below_alloc (Below.refl _ _) _
            have hkW : Blk W2 wr.heap.size #[.func (.func F) #[] caps] 138 := by rw [← hW2]; exact Blk.new _ _ _
            have hBr2 := hBr.below hbW hBr.lt
            obtain ⟨c0, c1, c2, c3, c4, c5, c6, c7, c8, c9⟩ := show W2.cell? ⟨W.heap.size, 0, none⟩ = some (.int .u32 b.src.lo) ∧ W2.cell? ⟨W.heap.size, 1, none⟩ = some (.int .u32 b.src.hi) ∧ W2.cell? ⟨W.heap.size, 2, none⟩ = some (.int .u32 b.dst.lo) ∧ W2.cell? ⟨W.heap.size, 3, none⟩ = some (.int .u32 b.dst.hi) ∧ W2.cell? ⟨W.heap.size, 4, none⟩ = some (.int .u16 b.sp.lo) ∧ W2.cell? ⟨W.heap.size, 5, none⟩ = some (.int .u16 b.sp.hi) ∧ W2.cell? ⟨W.heap.size, 6, none⟩ = some (.int .u16 b.dp.lo) ∧ W2.cell? ⟨W.heap.size, 7, none⟩ = some (.int .u16 b.dp.hi) ∧ W2.cell? ⟨W.heap.size, 8, none⟩ = some (.int .u8 b.pr.v) ∧ W2.cell? ⟨W.heap.size, 9, none⟩ = some (.int .u8 b.pr.c) from ⟨hBr2.cell (i := 0) rfl, hBr2.cell (i := 1) rfl, hBr2.cell (i := 2) rfl, hBr2.cell (i := 3) rfl, hBr2.cell (i := 4) rfl, hBr2.cell (i := 5) rfl, hBr2.cell (i := 6) rfl, hBr2.cell (i := 7) rfl, hBr2.cell (i := 8) rfl, hBr2.cell (i := 9) rfl⟩
            have hl2 := hBr2.lt
            have h20 := hkW.cell (i := 0) rfl
            have HBW := Sd.mk hbW
            have hsf := fun (a : Addr) (c : Array Value) (w : World) => run_store Try.prog w a (.func (.func F) #[] c) .plain rfl
            unfold Entered at hcf
            clear hGr hBr HF hkW hbW hBr2
            go_wp2_with fail
            refine (HFF.out _ HBW.out).mono ?_
            rintro e w2 ⟨x, y, fv, ok, rfl, hb2, hyes, hno⟩
            have HYN := Sd.mk (And.intro hyes hno)
            have HB2 := Sd.mk (beyond HBW.out hb2)
            clear c0 c1 c2 c3 c4 c5 c6 c7 c8 c9 h20 hfv hSl hl2 hcf hsf hb2 hyes hno
            go_upto_region 15 with fail
            obtain ⟨W3, hW3⟩ : ∃ W3, (w2.alloc (.cells #[.int .u32 x.src.lo, .int .u32 x.src.hi, .int .u32 x.dst.lo, .int .u32 x.dst.hi, .int .u16 x.sp.lo, .int .u16 x.sp.hi, .int .u16 x.dp.lo, .int .u16 x.dp.hi, .int .u8 x.pr.v, .int .u8 x.pr.c] 109)).alloc (.cells #[.int .u32 y.src.lo, .int .u32 y.src.hi, .int .u32 y.dst.lo, .int .u32 y.dst.hi, .int .u16 y.sp.lo, .int .u16 y.sp.hi, .int .u16 y.dp.lo, .int .u16 y.dp.hi, .int .u8 y.pr.v, .int .u8 y.pr.c] 109) = W3 := ⟨_, rfl⟩
            have hx3 : Blk W3 w2.heap.size #[.int .u32 x.src.lo, .int .u32 x.src.hi, .int .u32 x.dst.lo, .int .u32 x.dst.hi, .int .u16 x.sp.lo, .int .u16 x.sp.hi, .int .u16 x.dp.lo, .int .u16 x.dp.hi, .int .u8 x.pr.v, .int .u8 x.pr.c] 109 := by rw [← hW3]; exact (Blk.new _ _ _).alloc _
            have hy3 : Blk W3 (w2.heap.size + 1) #[.int .u32 y.src.lo, .int .u32 y.src.hi, .int .u32 y.dst.lo, .int .u32 y.dst.hi, .int .u16 y.sp.lo, .int .u16 y.sp.hi, .int .u16 y.dp.lo, .int .u16 y.dp.hi, .int .u8 y.pr.v, .int .u8 y.pr.c] 109 := by rw [← hW3]; exact blkN (by simp) _ _
            have hb3 : Below w2.heap.size w2 W3 := by rw [← hW3]; exact below_alloc (below_alloc (Below.refl _ _) _) _
            have HB3 := Sd.mk (beyond HB2.out hb3)
            have HYN3 : Sd ((ok = true → ∃ f, CutOk b x y f ∧ LowAt W3 fv f) ∧ (ok = false → NoCut k b)) := ⟨fun h => by
              obtain ⟨f, h1, h2⟩ := HYN.out.1 h
              exact ⟨f, h1, h2.below hb3⟩, HYN.out.2⟩
            rw [hW3]
            generalize w2.heap.size = P1 at hx3 hy3 ⊢
            clear hW3 hb3 HYN HB2
            have HI3 := Sd.mk (HI.out.move HB3.out)
            cases ok with
            | false =>
              have HI4 := Sd.mk (HI3.out.no (HYN3.out.2 rfl))
              clear HI HI3 hx3 hy3
              go_wp2_with fail
              go_roundw
              case rel => exact ⟨k + 1, most, sum, by omega, by go_num, rfl, rfl, HI4⟩
              case measure => simp [intOf]; omega
            | true =>
              obtain ⟨fw, hcut0, hlow⟩ := HYN3.out.1 rfl
              have HCL := Sd.mk (And.intro hcut0 hlow)
              have hG3 := HG1.out.below (beyond HI.out.below HB3.out)
              have hV3 : OwnN W3 0 (.slice VA l.length vcap) l := ((HK1.out.trans (KeptN.below (beyond HI.out.below HB3.out))).row HGG.out.eng HV.out (by decide) (by decide))
              have KS : ∀ W, Below W3.heap.size W3 W → (Below W3.heap.size W3 W ∧ W.cell? ⟨P1, 0, none⟩ = some (.int .u32 x.src.lo) ∧ W.cell? ⟨P1, 1, none⟩ = some (.int .u32 x.src.hi) ∧ W.cell? ⟨P1, 2, none⟩ = some (.int .u32 x.dst.lo) ∧ W.cell? ⟨P1, 3, none⟩ = some (.int .u32 x.dst.hi) ∧ W.cell? ⟨P1, 4, none⟩ = some (.int .u16 x.sp.lo) ∧ W.cell? ⟨P1, 5, none⟩ = some (.int .u16 x.sp.hi) ∧ W.cell? ⟨P1, 6, none⟩ = some (.int .u16 x.dp.lo) ∧ W.cell? ⟨P1, 7, none⟩ = some (.int .u16 x.dp.hi) ∧ W.cell? ⟨P1, 8, none⟩ = some (.int .u8 x.pr.v) ∧ W.cell? ⟨P1, 9, none⟩ = some (.int .u8 x.pr.c) ∧ W.cell? ⟨P1 + 1, 0, none⟩ = some (.int .u32 y.src.lo) ∧ W.cell? ⟨P1 + 1, 1, none⟩ = some (.int .u32 y.src.hi) ∧ W.cell? ⟨P1 + 1, 2, none⟩ = some (.int .u32 y.dst.lo) ∧ W.cell? ⟨P1 + 1, 3, none⟩ = some (.int .u32 y.dst.hi) ∧ W.cell? ⟨P1 + 1, 4, none⟩ = some (.int .u16 y.sp.lo) ∧ W.cell? ⟨P1 + 1, 5, none⟩ = some (.int .u16 y.sp.hi) ∧ W.cell? ⟨P1 + 1, 6, none⟩ = some (.int .u16 y.dp.lo) ∧ W.cell? ⟨P1 + 1, 7, none⟩ = some (.int .u16 y.dp.hi) ∧ W.cell? ⟨P1 + 1, 8, none⟩ = some (.int .u8 y.pr.v) ∧ W.cell? ⟨P1 + 1, 9, none⟩ = some (.int .u8 y.pr.c)) := fun W h => by
                have k1 := hx3.below h hx3.lt
                have k2 := hy3.below h hy3.lt
                exact ⟨h, k1.cell (i := 0) rfl, k1.cell (i := 1) rfl, k1.cell (i := 2) rfl, k1.cell (i := 3) rfl, k1.cell (i := 4) rfl, k1.cell (i := 5) rfl, k1.cell (i := 6) rfl, k1.cell (i := 7) rfl, k1.cell (i := 8) rfl, k1.cell (i := 9) rfl, k2.cell (i := 0) rfl, k2.cell (i := 1) rfl, k2.cell (i := 2) rfl, k2.cell (i := 3) rfl, k2.cell (i := 4) rfl, k2.cell (i := 5) rfl, k2.cell (i := 6) rfl, k2.cell (i := 7) rfl, k2.cell (i := 8) rfl, k2.cell (i := 9) rfl⟩
              have HX : Sd (∀ W, (Below W3.heap.size W3 W ∧ W.cell? ⟨P1, 0, none⟩ = some (.int .u32 x.src.lo) ∧ W.cell? ⟨P1, 1, none⟩ = some (.int .u32 x.src.hi) ∧ W.cell? ⟨P1, 2, none⟩ = some (.int .u32 x.dst.lo) ∧ W.cell? ⟨P1, 3, none⟩ = some (.int .u32 x.dst.hi) ∧ W.cell? ⟨P1, 4, none⟩ = some (.int .u16 x.sp.lo) ∧ W.cell? ⟨P1, 5, none⟩ = some (.int .u16 x.sp.hi) ∧ W.cell? ⟨P1, 6, none⟩ = some (.int .u16 x.dp.lo) ∧ W.cell? ⟨P1, 7, none⟩ = some (.int .u16 x.dp.hi) ∧ W.cell? ⟨P1, 8, none⟩ = some (.int .u8 x.pr.v) ∧ W.cell? ⟨P1, 9, none⟩ = some (.int .u8 x.pr.c) ∧ W.cell? ⟨P1 + 1, 0, none⟩ = some (.int .u32 y.src.lo) ∧ W.cell? ⟨P1 + 1, 1, none⟩ = some (.int .u32 y.src.hi) ∧ W.cell? ⟨P1 + 1, 2, none⟩ = some (.int .u32 y.dst.lo) ∧ W.cell? ⟨P1 + 1, 3, none⟩ = some (.int .u32 y.dst.hi) ∧ W.cell? ⟨P1 + 1, 4, none⟩ = some (.int .u16 y.sp.lo) ∧ W.cell? ⟨P1 + 1, 5, none⟩ = some (.int .u16 y.sp.hi) ∧ W.cell? ⟨P1 + 1, 6, none⟩ = some (.int .u16 y.dp.lo) ∧ W.cell? ⟨P1 + 1, 7, none⟩ = some (.int .u16 y.dp.hi) ∧ W.cell? ⟨P1 + 1, 8, none⟩ = some (.int .u8 y.pr.v) ∧ W.cell? ⟨P1 + 1, 9, none⟩ = some (.int .u8 y.pr.c)) → Calls Try.prog 48 #[.pointer (some ⟨E, 0, none⟩), .agg #[.int .u32 x.src.lo, .int .u32 x.src.hi, .int .u32 x.dst.lo, .int .u32 x.dst.hi, .int .u16 x.sp.lo, .int .u16 x.sp.hi, .int .u16 x.dp.lo, .int .u16 x.dp.hi, .int .u8 x.pr.v, .int .u8 x.pr.c], .slice VA l.length vcap] W fun e w' => ∃ p, e = .returned p ∧ (Below W3.heap.size W3 w' ∧ w'.cell? ⟨P1, 0, none⟩ = some (.int .u32 x.src.lo) ∧ w'.cell? ⟨P1, 1, none⟩ = some (.int .u32 x.src.hi) ∧ w'.cell? ⟨P1, 2, none⟩ = some (.int .u32 x.dst.lo) ∧ w'.cell? ⟨P1, 3, none⟩ = some (.int .u32 x.dst.hi) ∧ w'.cell? ⟨P1, 4, none⟩ = some (.int .u16 x.sp.lo) ∧ w'.cell? ⟨P1, 5, none⟩ = some (.int .u16 x.sp.hi) ∧ w'.cell? ⟨P1, 6, none⟩ = some (.int .u16 x.dp.lo) ∧ w'.cell? ⟨P1, 7, none⟩ = some (.int .u16 x.dp.hi) ∧ w'.cell? ⟨P1, 8, none⟩ = some (.int .u8 x.pr.v) ∧ w'.cell? ⟨P1, 9, none⟩ = some (.int .u8 x.pr.c) ∧ w'.cell? ⟨P1 + 1, 0, none⟩ = some (.int .u32 y.src.lo) ∧ w'.cell? ⟨P1 + 1, 1, none⟩ = some (.int .u32 y.src.hi) ∧ w'.cell? ⟨P1 + 1, 2, none⟩ = some (.int .u32 y.dst.lo) ∧ w'.cell? ⟨P1 + 1, 3, none⟩ = some (.int .u32 y.dst.hi) ∧ w'.cell? ⟨P1 + 1, 4, none⟩ = some (.int .u16 y.sp.lo) ∧ w'.cell? ⟨P1 + 1, 5, none⟩ = some (.int .u16 y.sp.hi) ∧ w'.cell? ⟨P1 + 1, 6, none⟩ = some (.int .u16 y.dp.lo) ∧ w'.cell? ⟨P1 + 1, 7, none⟩ = some (.int .u16 y.dp.hi) ∧ w'.cell? ⟨P1 + 1, 8, none⟩ = some (.int .u8 y.pr.v) ∧ w'.cell? ⟨P1 + 1, 9, none⟩ = some (.int .u8 y.pr.c)) ∧ OwnN w' 0 p (insideI bs x l) ∧ Below W.heap.size W w') := ⟨fun W hS =>
                (inside_any E bs BA bcap x l VA vcap W hcut0.gx.wf (fun z hz => (HBS.out z hz).wf) HLI.out (by omega) ((hG3.below hS.1).eng.cell (i := 9) rfl) (hG3.below hS.1).box.at (hV3.below hS.1).at).mono fun e w' ⟨p, h1, h2, h3⟩ => ⟨p, h1, KS _ (beyond hS.1 h3), ownsRow_mono h2 (Nat.zero_le _), h3⟩⟩
              have HY : Sd (∀ W, (Below W3.heap.size W3 W ∧ W.cell? ⟨P1, 0, none⟩ = some (.int .u32 x.src.lo) ∧ W.cell? ⟨P1, 1, none⟩ = some (.int .u32 x.src.hi) ∧ W.cell? ⟨P1, 2, none⟩ = some (.int .u32 x.dst.lo) ∧ W.cell? ⟨P1, 3, none⟩ = some (.int .u32 x.dst.hi) ∧ W.cell? ⟨P1, 4, none⟩ = some (.int .u16 x.sp.lo) ∧ W.cell? ⟨P1, 5, none⟩ = some (.int .u16 x.sp.hi) ∧ W.cell? ⟨P1, 6, none⟩ = some (.int .u16 x.dp.lo) ∧ W.cell? ⟨P1, 7, none⟩ = some (.int .u16 x.dp.hi) ∧ W.cell? ⟨P1, 8, none⟩ = some (.int .u8 x.pr.v) ∧ W.cell? ⟨P1, 9, none⟩ = some (.int .u8 x.pr.c) ∧ W.cell? ⟨P1 + 1, 0, none⟩ = some (.int .u32 y.src.lo) ∧ W.cell? ⟨P1 + 1, 1, none⟩ = some (.int .u32 y.src.hi) ∧ W.cell? ⟨P1 + 1, 2, none⟩ = some (.int .u32 y.dst.lo) ∧ W.cell? ⟨P1 + 1, 3, none⟩ = some (.int .u32 y.dst.hi) ∧ W.cell? ⟨P1 + 1, 4, none⟩ = some (.int .u16 y.sp.lo) ∧ W.cell? ⟨P1 + 1, 5, none⟩ = some (.int .u16 y.sp.hi) ∧ W.cell? ⟨P1 + 1, 6, none⟩ = some (.int .u16 y.dp.lo) ∧ W.cell? ⟨P1 + 1, 7, none⟩ = some (.int .u16 y.dp.hi) ∧ W.cell? ⟨P1 + 1, 8, none⟩ = some (.int .u8 y.pr.v) ∧ W.cell? ⟨P1 + 1, 9, none⟩ = some (.int .u8 y.pr.c)) → Calls Try.prog 48 #[.pointer (some ⟨E, 0, none⟩), .agg #[.int .u32 y.src.lo, .int .u32 y.src.hi, .int .u32 y.dst.lo, .int .u32 y.dst.hi, .int .u16 y.sp.lo, .int .u16 y.sp.hi, .int .u16 y.dp.lo, .int .u16 y.dp.hi, .int .u8 y.pr.v, .int .u8 y.pr.c], .slice VA l.length vcap] W fun e w' => ∃ p, e = .returned p ∧ (Below W3.heap.size W3 w' ∧ w'.cell? ⟨P1, 0, none⟩ = some (.int .u32 x.src.lo) ∧ w'.cell? ⟨P1, 1, none⟩ = some (.int .u32 x.src.hi) ∧ w'.cell? ⟨P1, 2, none⟩ = some (.int .u32 x.dst.lo) ∧ w'.cell? ⟨P1, 3, none⟩ = some (.int .u32 x.dst.hi) ∧ w'.cell? ⟨P1, 4, none⟩ = some (.int .u16 x.sp.lo) ∧ w'.cell? ⟨P1, 5, none⟩ = some (.int .u16 x.sp.hi) ∧ w'.cell? ⟨P1, 6, none⟩ = some (.int .u16 x.dp.lo) ∧ w'.cell? ⟨P1, 7, none⟩ = some (.int .u16 x.dp.hi) ∧ w'.cell? ⟨P1, 8, none⟩ = some (.int .u8 x.pr.v) ∧ w'.cell? ⟨P1, 9, none⟩ = some (.int .u8 x.pr.c) ∧ w'.cell? ⟨P1 + 1, 0, none⟩ = some (.int .u32 y.src.lo) ∧ w'.cell? ⟨P1 + 1, 1, none⟩ = some (.int .u32 y.src.hi) ∧ w'.cell? ⟨P1 + 1, 2, none⟩ = some (.int .u32 y.dst.lo) ∧ w'.cell? ⟨P1 + 1, 3, none⟩ = some (.int .u32 y.dst.hi) ∧ w'.cell? ⟨P1 + 1, 4, none⟩ = some (.int .u16 y.sp.lo) ∧ w'.cell? ⟨P1 + 1, 5, none⟩ = some (.int .u16 y.sp.hi) ∧ w'.cell? ⟨P1 + 1, 6, none⟩ = some (.int .u16 y.dp.lo) ∧ w'.cell? ⟨P1 + 1, 7, none⟩ = some (.int .u16 y.dp.hi) ∧ w'.cell? ⟨P1 + 1, 8, none⟩ = some (.int .u8 y.pr.v) ∧ w'.cell? ⟨P1 + 1, 9, none⟩ = some (.int .u8 y.pr.c)) ∧ OwnN w' 0 p (insideI bs y l) ∧ Below W.heap.size W w') := ⟨fun W hS =>
                (inside_any E bs BA bcap y l VA vcap W hcut0.gy.wf (fun z hz => (HBS.out z hz).wf) HLI.out (by omega) ((hG3.below hS.1).eng.cell (i := 9) rfl) (hG3.below hS.1).box.at (hV3.below hS.1).at).mono fun e w' ⟨p, h1, h2, h3⟩ => ⟨p, h1, KS _ (beyond hS.1 h3), ownsRow_mono h2 (Nat.zero_le _), h3⟩⟩
              have HKS := Sd.mk KS
              have HM0 : Below W3.heap.size W3 W3.drew := (Below.refl _ _).drew
              have HXY := Sd.mk (And.intro hx3 hy3)
              clear HYN3 HI hcut0 hlow hG3 hV3 KS hx3 hy3
              go_upto_region 16 with fail
              go_cut [23, 24] (fun s23 s24 wx => ∃ p q, s23 = p ∧ s24 = q ∧ Sd (OwnN wx 0 p (insideI bs x l) ∧ OwnN wx 0 q (insideI bs y l) ∧ Below W3.heap.size W3 wx))
              case first =>
                go_region_held3 (fun W => Below W3.heap.size W3 W ∧ W.cell? ⟨P1, 0, none⟩ = some (.int .u32 x.src.lo) ∧ W.cell? ⟨P1, 1, none⟩ = some (.int .u32 x.src.hi) ∧ W.cell? ⟨P1, 2, none⟩ = some (.int .u32 x.dst.lo) ∧ W.cell? ⟨P1, 3, none⟩ = some (.int .u32 x.dst.hi) ∧ W.cell? ⟨P1, 4, none⟩ = some (.int .u16 x.sp.lo) ∧ W.cell? ⟨P1, 5, none⟩ = some (.int .u16 x.sp.hi) ∧ W.cell? ⟨P1, 6, none⟩ = some (.int .u16 x.dp.lo) ∧ W.cell? ⟨P1, 7, none⟩ = some (.int .u16 x.dp.hi) ∧ W.cell? ⟨P1, 8, none⟩ = some (.int .u8 x.pr.v) ∧ W.cell? ⟨P1, 9, none⟩ = some (.int .u8 x.pr.c) ∧ W.cell? ⟨P1 + 1, 0, none⟩ = some (.int .u32 y.src.lo) ∧ W.cell? ⟨P1 + 1, 1, none⟩ = some (.int .u32 y.src.hi) ∧ W.cell? ⟨P1 + 1, 2, none⟩ = some (.int .u32 y.dst.lo) ∧ W.cell? ⟨P1 + 1, 3, none⟩ = some (.int .u32 y.dst.hi) ∧ W.cell? ⟨P1 + 1, 4, none⟩ = some (.int .u16 y.sp.lo) ∧ W.cell? ⟨P1 + 1, 5, none⟩ = some (.int .u16 y.sp.hi) ∧ W.cell? ⟨P1 + 1, 6, none⟩ = some (.int .u16 y.dp.lo) ∧ W.cell? ⟨P1 + 1, 7, none⟩ = some (.int .u16 y.dp.hi) ∧ W.cell? ⟨P1 + 1, 8, none⟩ = some (.int .u8 y.pr.v) ∧ W.cell? ⟨P1 + 1, 9, none⟩ = some (.int .u8 y.pr.c))
                  (first | (with_reducible assumption) | (with_reducible exact HKS.out _ HM0))
                  (first | (go_at_call_of 48 (Value.agg #[.int .u32 x.src.lo, .int .u32 x.src.hi, .int .u32 x.dst.lo, .int .u32 x.dst.hi, .int .u16 x.sp.lo, .int .u16 x.sp.hi, .int .u16 x.dp.lo, .int .u16 x.dp.hi, .int .u8 x.pr.v, .int .u8 x.pr.c]); with_reducible refine (HX.out _ (by with_reducible assumption)).mono ?_; rintro e w1 ⟨p, rfl, hs1, hp, hbp⟩) | (go_at_call_of 48 (Value.agg #[.int .u32 y.src.lo, .int .u32 y.src.hi, .int .u32 y.dst.lo, .int .u32 y.dst.hi, .int .u16 y.sp.lo, .int .u16 y.sp.hi, .int .u16 y.dp.lo, .int .u16 y.dp.hi, .int .u8 y.pr.v, .int .u8 y.pr.c]); with_reducible refine (HY.out _ (by with_reducible assumption)).mono ?_; rintro e w2 ⟨q, rfl, hs2, hq, hbq⟩))
                all_goals
                  go_wp2_with fail
                  go_meet
                  first | with_reducible exact ⟨_, _, rfl, rfl, ⟨hp.below hbq, hq, hs2.1⟩⟩ | with_reducible exact ⟨_, _, rfl, rfl, ⟨hp, hq.below hbp, hs1.1⟩⟩
              case rest =>
                obtain ⟨p, q, rfl, rfl, H4⟩ := hcut
                obtain ⟨A1, cp1, rfl, _⟩ := H4.out.1.slice
                obtain ⟨A2, cp2, rfl, _⟩ := H4.out.2.1.slice
                have z1 : (insideI bs x l).length ≤ 64 := Nat.le_trans (insideI_len bs x l) (Nat.le_trans hll hbl)
                have z2 : (insideI bs y l).length ≤ 64 := Nat.le_trans (insideI_len bs y l) (Nat.le_trans hll hbl)
                go_upto_region 18 with fail
                obtain ⟨mx, hmx⟩ : ∃ mx : Int, max ((insideI bs x l).length : Int) ((insideI bs y l).length : Int) = mx := ⟨_, rfl⟩
                obtain ⟨sm, hsm⟩ : ∃ sm : Int, ((insideI bs x l).length : Int) + ((insideI bs y l).length : Int) = sm := ⟨_, rfl⟩
                have hm0 : mx ≤ l.length := by rw [← hmx]; exact max_le_len (insideI_len bs x l) (insideI_len bs y l)
                have HMX : Sd (0 ≤ mx ∧ mx ≤ 1000 ∧ 0 ≤ sm ∧ sm ≤ 1000) := ⟨by rw [← hmx, ← hsm]; exact sum_small z1 z2⟩
                rw [hmx, hsm]
                clear hmx hsm z1 z2
                by_cases h1 : mx < most
                · have hb4 := H4.out.2.2
                  have hG := HI3.out.move hb4
                  obtain ⟨a0, a1, y0, y1, y2, y3, y4, y5, y6, y7, y8, y9, y10, y11, y12, y13, y14, y15, y16, y17, y18, y19, hP, hQ⟩ := hG.pq
                  have kx := HXY.out.1.below hb4 HXY.out.1.lt
                  have ky := HXY.out.2.below hb4 HXY.out.2.lt
                  obtain ⟨c0, c1, c2, c3, c4, c5, c6, c7, c8, c9⟩ := show wc.cell? ⟨P1, 0, none⟩ = some (.int .u32 x.src.lo) ∧ wc.cell? ⟨P1, 1, none⟩ = some (.int .u32 x.src.hi) ∧ wc.cell? ⟨P1, 2, none⟩ = some (.int .u32 x.dst.lo) ∧ wc.cell? ⟨P1, 3, none⟩ = some (.int .u32 x.dst.hi) ∧ wc.cell? ⟨P1, 4, none⟩ = some (.int .u16 x.sp.lo) ∧ wc.cell? ⟨P1, 5, none⟩ = some (.int .u16 x.sp.hi) ∧ wc.cell? ⟨P1, 6, none⟩ = some (.int .u16 x.dp.lo) ∧ wc.cell? ⟨P1, 7, none⟩ = some (.int .u16 x.dp.hi) ∧ wc.cell? ⟨P1, 8, none⟩ = some (.int .u8 x.pr.v) ∧ wc.cell? ⟨P1, 9, none⟩ = some (.int .u8 x.pr.c) from ⟨kx.cell (i := 0) rfl, kx.cell (i := 1) rfl, kx.cell (i := 2) rfl, kx.cell (i := 3) rfl, kx.cell (i := 4) rfl, kx.cell (i := 5) rfl, kx.cell (i := 6) rfl, kx.cell (i := 7) rfl, kx.cell (i := 8) rfl, kx.cell (i := 9) rfl⟩
                  obtain ⟨d0, d1, d2, d3, d4, d5, d6, d7, d8, d9⟩ := show wc.cell? ⟨P1 + 1, 0, none⟩ = some (.int .u32 y.src.lo) ∧ wc.cell? ⟨P1 + 1, 1, none⟩ = some (.int .u32 y.src.hi) ∧ wc.cell? ⟨P1 + 1, 2, none⟩ = some (.int .u32 y.dst.lo) ∧ wc.cell? ⟨P1 + 1, 3, none⟩ = some (.int .u32 y.dst.hi) ∧ wc.cell? ⟨P1 + 1, 4, none⟩ = some (.int .u16 y.sp.lo) ∧ wc.cell? ⟨P1 + 1, 5, none⟩ = some (.int .u16 y.sp.hi) ∧ wc.cell? ⟨P1 + 1, 6, none⟩ = some (.int .u16 y.dp.lo) ∧ wc.cell? ⟨P1 + 1, 7, none⟩ = some (.int .u16 y.dp.hi) ∧ wc.cell? ⟨P1 + 1, 8, none⟩ = some (.int .u8 y.pr.v) ∧ wc.cell? ⟨P1 + 1, 9, none⟩ = some (.int .u8 y.pr.c) from ⟨ky.cell (i := 0) rfl, ky.cell (i := 1) rfl, ky.cell (i := 2) rfl, ky.cell (i := 3) rfl, ky.cell (i := 4) rfl, ky.cell (i := 5) rfl, ky.cell (i := 6) rfl, ky.cell (i := 7) rfl, ky.cell (i := 8) rfl, ky.cell (i := 9) rfl⟩
                  have n1 := neTypes hP kx (by decide)
                  have n2 := neTypes hP ky (by decide)
                  have n3 := neTypes hQ kx (by decide)
                  have n4 := neTypes hQ ky (by decide)
                  have n5 := neTypes hP hQ (by decide)
                  have lx := kx.lt
                  have ly := ky.lt
                  have lp := hP.lt
                  have lq := hQ.lt
                  have fp := hP.frozen
                  have fq := hQ.frozen
                  have ap := hP.at
                  have aq := hQ.at
                  have HPQ := Sd.mk (And.intro hP hQ)
                  have HG4 := Sd.mk hG
                  clear kx ky hP hQ hb4 hG
                  have hr := Row20.of HPQ.out.2 rfl
                  have hfl := fill2Box (.int .u32 x.src.lo) (.int .u32 x.src.hi) (.int .u32 x.dst.lo) (.int .u32 x.dst.hi) (.int .u16 x.sp.lo) (.int .u16 x.sp.hi) (.int .u16 x.dp.lo) (.int .u16 x.dp.hi) (.int .u8 x.pr.v) (.int .u8 x.pr.c) (.int .u32 y.src.lo) (.int .u32 y.src.hi) (.int .u32 y.dst.lo) (.int .u32 y.dst.hi) (.int .u16 y.sp.lo) (.int .u16 y.sp.hi) (.int .u16 y.dp.lo) (.int .u16 y.dp.hi) (.int .u8 y.pr.v) (.int .u8 y.pr.c)
                  go_upto_region 19 with fail
                  go_region
                  clear hr hfl
                  clear c0 c1 c2 c3 c4 c5 c6 c7 c8 c9 d0 d1 d2 d3 d4 d5 d6 d7 d8 d9 n1 n2 n3 n4 lx ly lp lq fp fq ap aq
                  obtain ⟨V', hV⟩ : ∃ V', ((((((((((((((((((((((wc.setCell ⟨W1.heap.size, 0, none⟩ (.slice A1 (insideI bs x l).length cp1)).setCell ⟨W1.heap.size, 1, none⟩ (.slice A2 (insideI bs y l).length cp2)).setCell ⟨W1.heap.size + 1, 0, none⟩ (.int .u32 x.src.lo)).setCell ⟨W1.heap.size + 1, 1, none⟩ (.int .u32 x.src.hi)).setCell ⟨W1.heap.size + 1, 2, none⟩ (.int .u32 x.dst.lo)).setCell ⟨W1.heap.size + 1, 3, none⟩ (.int .u32 x.dst.hi)).setCell ⟨W1.heap.size + 1, 4, none⟩ (.int .u16 x.sp.lo)).setCell ⟨W1.heap.size + 1, 5, none⟩ (.int .u16 x.sp.hi)).setCell ⟨W1.heap.size + 1, 6, none⟩ (.int .u16 x.dp.lo)).setCell ⟨W1.heap.size + 1, 7, none⟩ (.int .u16 x.dp.hi)).setCell ⟨W1.heap.size + 1, 8, none⟩ (.int .u8 x.pr.v)).setCell ⟨W1.heap.size + 1, 9, none⟩ (.int .u8 x.pr.c)).setCell ⟨W1.heap.size + 1, 10, none⟩ (.int .u32 y.src.lo)).setCell ⟨W1.heap.size + 1, 11, none⟩ (.int .u32 y.src.hi)).setCell ⟨W1.heap.size + 1, 12, none⟩ (.int .u32 y.dst.lo)).setCell ⟨W1.heap.size + 1, 13, none⟩ (.int .u32 y.dst.hi)).setCell ⟨W1.heap.size + 1, 14, none⟩ (.int .u16 y.sp.lo)).setCell ⟨W1.heap.size + 1, 15, none⟩ (.int .u16 y.sp.hi)).setCell ⟨W1.heap.size + 1, 16, none⟩ (.int .u16 y.dp.lo)).setCell ⟨W1.heap.size + 1, 17, none⟩ (.int .u16 y.dp.hi)).setCell ⟨W1.heap.size + 1, 18, none⟩ (.int .u8 y.pr.v)).setCell ⟨W1.heap.size + 1, 19, none⟩ (.int .u8 y.pr.c)).drew = V' := ⟨_, rfl⟩
                  obtain ⟨k1, k2, ho⟩ := fill22 HPQ.out.1 HPQ.out.2 n5 hV
                  rw [hV]
                  have HI5 : Sd (BestI W1 W1.heap.size bs b l (k + 1) fv mx sm V') := ⟨by
                    have hcl := HCL.out.2.below H4.out.2.2
                    refine ⟨HG4.out.below.trans (ho.below _ HG4.out.below.size (fun j hj => by omega)), ⟨_, _, _, _, _, _, _, _, _, _, _, _, _, _, _, _, _, _, _, _, _, _, k1, k2⟩, .inr ⟨x, y, fw, _, _, HCL.out.1, hcl.keep (fun j u T hj => hj.only ho (fun e => ?_)), k1, k2, row_only H4.out.1 ho (fun j hj e => ?_), row_only H4.out.2.1 ho (fun j hj e => ?_), HMX.out.1, HMX.out.2.1, HMX.out.2.2.1, HMX.out.2.2.2⟩⟩
                    · rcases e with e | e
                      · exact ne_size hj HPQ.out.1 (by simp) e
                      · exact ne_size hj HPQ.out.2 (by simp) e
                    · rcases e with e | e
                      · exact row_ne H4.out.1 HPQ.out.1 (by decide) (by rw [hj, e])
                      · exact row_ne H4.out.1 HPQ.out.2 (by decide) (by rw [hj, e])
                    · rcases e with e | e
                      · exact row_ne H4.out.2.1 HPQ.out.1 (by decide) (by rw [hj, e])
                      · exact row_ne H4.out.2.1 HPQ.out.2 (by decide) (by rw [hj, e])⟩
                  clear k1 k2 ho hV
                  go_wp2_with fail
                  go_roundw
                  case rel => exact ⟨k + 1, mx, sm, by omega, by go_num, rfl, rfl, HI5⟩
                  case measure => simp [intOf]; omega
                · by_cases h2 : mx = most
                  · have ht : (mx == most) = true := by simp [h2]
                    have h2' := Sd.mk h2
                    clear h2
                    by_cases h3 : sm < sum
                    · have hb4 := H4.out.2.2
                      have hG := HI3.out.move hb4
                      obtain ⟨a0, a1, y0, y1, y2, y3, y4, y5, y6, y7, y8, y9, y10, y11, y12, y13, y14, y15, y16, y17, y18, y19, hP, hQ⟩ := hG.pq
                      have kx := HXY.out.1.below hb4 HXY.out.1.lt
                      have ky := HXY.out.2.below hb4 HXY.out.2.lt
                      obtain ⟨c0, c1, c2, c3, c4, c5, c6, c7, c8, c9⟩ := show wc.cell? ⟨P1, 0, none⟩ = some (.int .u32 x.src.lo) ∧ wc.cell? ⟨P1, 1, none⟩ = some (.int .u32 x.src.hi) ∧ wc.cell? ⟨P1, 2, none⟩ = some (.int .u32 x.dst.lo) ∧ wc.cell? ⟨P1, 3, none⟩ = some (.int .u32 x.dst.hi) ∧ wc.cell? ⟨P1, 4, none⟩ = some (.int .u16 x.sp.lo) ∧ wc.cell? ⟨P1, 5, none⟩ = some (.int .u16 x.sp.hi) ∧ wc.cell? ⟨P1, 6, none⟩ = some (.int .u16 x.dp.lo) ∧ wc.cell? ⟨P1, 7, none⟩ = some (.int .u16 x.dp.hi) ∧ wc.cell? ⟨P1, 8, none⟩ = some (.int .u8 x.pr.v) ∧ wc.cell? ⟨P1, 9, none⟩ = some (.int .u8 x.pr.c) from ⟨kx.cell (i := 0) rfl, kx.cell (i := 1) rfl, kx.cell (i := 2) rfl, kx.cell (i := 3) rfl, kx.cell (i := 4) rfl, kx.cell (i := 5) rfl, kx.cell (i := 6) rfl, kx.cell (i := 7) rfl, kx.cell (i := 8) rfl, kx.cell (i := 9) rfl⟩
                      obtain ⟨d0, d1, d2, d3, d4, d5, d6, d7, d8, d9⟩ := show wc.cell? ⟨P1 + 1, 0, none⟩ = some (.int .u32 y.src.lo) ∧ wc.cell? ⟨P1 + 1, 1, none⟩ = some (.int .u32 y.src.hi) ∧ wc.cell? ⟨P1 + 1, 2, none⟩ = some (.int .u32 y.dst.lo) ∧ wc.cell? ⟨P1 + 1, 3, none⟩ = some (.int .u32 y.dst.hi) ∧ wc.cell? ⟨P1 + 1, 4, none⟩ = some (.int .u16 y.sp.lo) ∧ wc.cell? ⟨P1 + 1, 5, none⟩ = some (.int .u16 y.sp.hi) ∧ wc.cell? ⟨P1 + 1, 6, none⟩ = some (.int .u16 y.dp.lo) ∧ wc.cell? ⟨P1 + 1, 7, none⟩ = some (.int .u16 y.dp.hi) ∧ wc.cell? ⟨P1 + 1, 8, none⟩ = some (.int .u8 y.pr.v) ∧ wc.cell? ⟨P1 + 1, 9, none⟩ = some (.int .u8 y.pr.c) from ⟨ky.cell (i := 0) rfl, ky.cell (i := 1) rfl, ky.cell (i := 2) rfl, ky.cell (i := 3) rfl, ky.cell (i := 4) rfl, ky.cell (i := 5) rfl, ky.cell (i := 6) rfl, ky.cell (i := 7) rfl, ky.cell (i := 8) rfl, ky.cell (i := 9) rfl⟩
                      have n1 := neTypes hP kx (by decide)
                      have n2 := neTypes hP ky (by decide)
                      have n3 := neTypes hQ kx (by decide)
                      have n4 := neTypes hQ ky (by decide)
                      have n5 := neTypes hP hQ (by decide)
                      have lx := kx.lt
                      have ly := ky.lt
                      have lp := hP.lt
                      have lq := hQ.lt
                      have fp := hP.frozen
                      have fq := hQ.frozen
                      have ap := hP.at
                      have aq := hQ.at
                      have HPQ := Sd.mk (And.intro hP hQ)
                      have HG4 := Sd.mk hG
                      clear kx ky hP hQ hb4 hG
                      have hr := Row20.of HPQ.out.2 rfl
                      have hfl := fill2Box (.int .u32 x.src.lo) (.int .u32 x.src.hi) (.int .u32 x.dst.lo) (.int .u32 x.dst.hi) (.int .u16 x.sp.lo) (.int .u16 x.sp.hi) (.int .u16 x.dp.lo) (.int .u16 x.dp.hi) (.int .u8 x.pr.v) (.int .u8 x.pr.c) (.int .u32 y.src.lo) (.int .u32 y.src.hi) (.int .u32 y.dst.lo) (.int .u32 y.dst.hi) (.int .u16 y.sp.lo) (.int .u16 y.sp.hi) (.int .u16 y.dp.lo) (.int .u16 y.dp.hi) (.int .u8 y.pr.v) (.int .u8 y.pr.c)
                      go_upto_region 19 with fail
                      go_region
                      clear hr hfl
                      clear c0 c1 c2 c3 c4 c5 c6 c7 c8 c9 d0 d1 d2 d3 d4 d5 d6 d7 d8 d9 n1 n2 n3 n4 lx ly lp lq fp fq ap aq
                      obtain ⟨V', hV⟩ : ∃ V', ((((((((((((((((((((((wc.setCell ⟨W1.heap.size, 0, none⟩ (.slice A1 (insideI bs x l).length cp1)).setCell ⟨W1.heap.size, 1, none⟩ (.slice A2 (insideI bs y l).length cp2)).setCell ⟨W1.heap.size + 1, 0, none⟩ (.int .u32 x.src.lo)).setCell ⟨W1.heap.size + 1, 1, none⟩ (.int .u32 x.src.hi)).setCell ⟨W1.heap.size + 1, 2, none⟩ (.int .u32 x.dst.lo)).setCell ⟨W1.heap.size + 1, 3, none⟩ (.int .u32 x.dst.hi)).setCell ⟨W1.heap.size + 1, 4, none⟩ (.int .u16 x.sp.lo)).setCell ⟨W1.heap.size + 1, 5, none⟩ (.int .u16 x.sp.hi)).setCell ⟨W1.heap.size + 1, 6, none⟩ (.int .u16 x.dp.lo)).setCell ⟨W1.heap.size + 1, 7, none⟩ (.int .u16 x.dp.hi)).setCell ⟨W1.heap.size + 1, 8, none⟩ (.int .u8 x.pr.v)).setCell ⟨W1.heap.size + 1, 9, none⟩ (.int .u8 x.pr.c)).setCell ⟨W1.heap.size + 1, 10, none⟩ (.int .u32 y.src.lo)).setCell ⟨W1.heap.size + 1, 11, none⟩ (.int .u32 y.src.hi)).setCell ⟨W1.heap.size + 1, 12, none⟩ (.int .u32 y.dst.lo)).setCell ⟨W1.heap.size + 1, 13, none⟩ (.int .u32 y.dst.hi)).setCell ⟨W1.heap.size + 1, 14, none⟩ (.int .u16 y.sp.lo)).setCell ⟨W1.heap.size + 1, 15, none⟩ (.int .u16 y.sp.hi)).setCell ⟨W1.heap.size + 1, 16, none⟩ (.int .u16 y.dp.lo)).setCell ⟨W1.heap.size + 1, 17, none⟩ (.int .u16 y.dp.hi)).setCell ⟨W1.heap.size + 1, 18, none⟩ (.int .u8 y.pr.v)).setCell ⟨W1.heap.size + 1, 19, none⟩ (.int .u8 y.pr.c)).drew = V' := ⟨_, rfl⟩
                      obtain ⟨k1, k2, ho⟩ := fill22 HPQ.out.1 HPQ.out.2 n5 hV
                      rw [hV]
                      have HI5 : Sd (BestI W1 W1.heap.size bs b l (k + 1) fv mx sm V') := ⟨by
                        have hcl := HCL.out.2.below H4.out.2.2
                        refine ⟨HG4.out.below.trans (ho.below _ HG4.out.below.size (fun j hj => by omega)), ⟨_, _, _, _, _, _, _, _, _, _, _, _, _, _, _, _, _, _, _, _, _, _, k1, k2⟩, .inr ⟨x, y, fw, _, _, HCL.out.1, hcl.keep (fun j u T hj => hj.only ho (fun e => ?_)), k1, k2, row_only H4.out.1 ho (fun j hj e => ?_), row_only H4.out.2.1 ho (fun j hj e => ?_), HMX.out.1, HMX.out.2.1, HMX.out.2.2.1, HMX.out.2.2.2⟩⟩
                        · rcases e with e | e
                          · exact ne_size hj HPQ.out.1 (by simp) e
                          · exact ne_size hj HPQ.out.2 (by simp) e
                        · rcases e with e | e
                          · exact row_ne H4.out.1 HPQ.out.1 (by decide) (by rw [hj, e])
                          · exact row_ne H4.out.1 HPQ.out.2 (by decide) (by rw [hj, e])
                        · rcases e with e | e
                          · exact row_ne H4.out.2.1 HPQ.out.1 (by decide) (by rw [hj, e])
                          · exact row_ne H4.out.2.1 HPQ.out.2 (by decide) (by rw [hj, e])⟩
                      clear k1 k2 ho hV
                      go_wp2_with fail
                      go_roundw
                      case rel => exact ⟨k + 1, mx, sm, by omega, by go_num, rfl, rfl, HI5⟩
                      case measure => simp [intOf]; omega
                    · have HI5 : Sd (BestI W1 W1.heap.size bs b l (k + 1) u14 most sum wc) := ⟨by
                        have hG := HI3.out.move H4.out.2.2
                        exact ⟨hG.below, hG.pq, .inr (hG.st.resolve_left (fun h => by have := h.2.1; omega))⟩⟩
                      go_wp2_with fail
                      go_roundw
                      case rel => exact ⟨k + 1, most, sum, by omega, by go_num, rfl, rfl, HI5⟩
                      case measure => simp [intOf]; omega
                  · have ht : (mx == most) = false := by simp [h2]
                    have HI5 : Sd (BestI W1 W1.heap.size bs b l (k + 1) u14 most sum wc) := ⟨by
                      have hG := HI3.out.move H4.out.2.2
                      exact ⟨hG.below, hG.pq, .inr (hG.st.resolve_left (fun h => by have := h.2.1; omega))⟩⟩
                    go_wp2_with fail
                    go_roundw
                    case rel => exact ⟨k + 1, most, sum, by omega, by go_num, rfl, rfl, HI5⟩
                    case measure => simp [intOf]; omega
          -- R1
          · rcases HI.out.st with ⟨_, _, _, hno⟩ | ⟨x, y, fw, p, q, hcut0, hlow, hP, hQ, hp, hq, _⟩
            · exfalso
              have := inside_one bs (fun z hz => (HBS.out z hz).wf) b (single_of (fun j hj => hno j (by omega))) l0
              rw [← HL0.out] at this
              omega
            · obtain ⟨PA, pc, rfl, _⟩ := hp.slice
              obtain ⟨QA, qc, rfl, _⟩ := hq.slice
              obtain ⟨F, caps, rfl, _, _⟩ := hlow.call
              have hsf := fun (a : Addr) (c : Array Value) (w : World) => run_store Try.prog w a (.func (.func F) #[] c) .plain rfl
              have hGr := HG1.out.below HI.out.below
              have c10r := Blk.cell hGr.eng (i := 10) rfl
              have clr := Blk.lt hGr.eng
              obtain ⟨_, hgl, hgf, n0, n1, n2, n3⟩ := hGr.nds.at ns.length (by simp)
              obtain ⟨s1, s2⟩ := grow_set hGr ns.length (by simp) 0 (by omega) ⟨.func (.func F) #[] caps, 0, 0, .slice none 0 0⟩ (.func (.func F) #[] caps) (by simp [ndC, Nd.zero])
              have e0 : (ns ++ [Nd.zero]).set ns.length ⟨.func (.func F) #[] caps, 0, 0, .slice none 0 0⟩ = ns ++ [⟨.func (.func F) #[] caps, 0, 0, .slice none 0 0⟩] := by simp
              rw [e0, Nat.add_zero] at s1
              rw [Nat.add_zero] at s2
              obtain ⟨W5, hW5⟩ : ∃ W5, wr.setCell ⟨g, ns.length * 4, none⟩ (.func (.func F) #[] caps) = W5 := ⟨_, rfl⟩
              rw [hW5] at s1 s2
              have HG5 := Sd.mk s1
              have HK5 : Sd (KeptN E base W W5) := ⟨(HK1.out.trans (KeptN.below HI.out.below)).trans s2⟩
              have HP5 := Sd.mk (s2.blk hGr.eng hP (by decide) (by decide))
              have HQ5 := Sd.mk (s2.blk hGr.eng hQ (by decide) (by decide))
              have Hp5 : Sd (OwnN W5 0 _ _) := ⟨s2.row hGr.eng hp (by decide) (by decide)⟩
              have Hq5 : Sd (OwnN W5 0 _ _) := ⟨s2.row hGr.eng hq (by decide) (by decide)⟩
              have HL5 := Sd.mk (s2.low hGr.eng hlow)
              have HC5 := Sd.mk hcut0
              clear hP hQ hp hq hlow hcut0 s1 s2 hGr HI e0 c5 c6 c10 cf cl
              go_upto_region 22 with fail
              try rw [hW5]
              clear c10r clr hgl hgf n0 n1 n2 n3 hsf hW5
              obtain ⟨f', hf'⟩ : ∃ f', f = f' + 1 := ⟨f - 1, by omega⟩
              have HIC := Sd.mk (HIH.out f' hf')
              subst hf'
              have HPW : Sd (1 ≤ 2 ^ (f' + 1) ∧ ns.length + 2 * 2 ^ (f' + 1) ≤ 5000) := ⟨Nat.one_le_two_pow, by have := HN2.out; rw [Nat.pow_succ] at this; omega⟩
              go_wp2
              go_loopw [148] (fun iv wr => ∃ i : Int, iv = .int .i64 i ∧ Sd (Tri i (fun j => KidsI W5 E S base c tv lv (.slice BA bs.length bcap) bs ns B D (2 ^ (f' + 1)) d x y (insideI bs x l) (insideI bs y l) (.func (.func F) #[] caps) j wr))) (fun iv _ => 2 - (intOf iv).toNat)
              case atStart => exact ⟨0, rfl, ⟨.inl ⟨rfl, kids_zero HG5.out⟩⟩⟩
              case round =>
                obtain ⟨ii, rfl, HT⟩ := hrel
                rcases HT.out with ⟨rfl, HI⟩ | ⟨rfl, HI⟩ | ⟨rfl, HI⟩
                · obtain ⟨nv, r, k0, k1, en5, h1, h2, h3, _, _⟩ := HI
                  obtain rfl : r = [] := List.length_eq_zero_iff.1 (by omega)
                  have hP2 := h2.blk HG5.out.eng HP5.out (by decide) (by decide)
                  have hQ2 := h2.blk HG5.out.eng HQ5.out (by decide) (by decide)
                  have p0 := hP2.cell (i := 0) rfl
                  have c0 := hQ2.cell (i := 0) rfl; have c1 := hQ2.cell (i := 1) rfl; have c2 := hQ2.cell (i := 2) rfl; have c3 := hQ2.cell (i := 3) rfl; have c4 := hQ2.cell (i := 4) rfl; have c5 := hQ2.cell (i := 5) rfl; have c6 := hQ2.cell (i := 6) rfl; have c7 := hQ2.cell (i := 7) rfl; have c8 := hQ2.cell (i := 8) rfl; have c9 := hQ2.cell (i := 9) rfl
                  have hp2 : OwnN wr.drew 0 (.slice PA (insideI bs x l).length pc) (insideI bs x l) := (h2.row HG5.out.eng Hp5.out (by decide) (by decide))
                  have hcall := HIC.out wr.drew x (insideI bs x l) l _ nv _ en5 HC5.out.gx rfl (fun i hi => HLI.out i (insideI_sub bs x l i hi)) (Nat.le_trans (insideI_len bs x l) hll) (h1.below (Below.refl _ _).drew) hp2 (by have := HPW.out; rw [List.length_append]; simp; omega)
                  rw [show ((d + 1 : Nat) : Int) = (d : Int) + 1 from by push_cast; rfl] at hcall
                  have HCALL := Sd.mk hcall
                  have HI1 := Sd.mk (And.intro h1 h2)
                  clear hP2 hQ2 hp2 hcall h1 h2 h3 HT
                  go_upto_region 25 with fail
                  refine wp_region_still_tail 10 (by kernel_rfl) (by kernel_rfl) ?_
                  change wpStill _ _ wr.drew _ _ _
                  simp only [List.take_succ_cons, List.take_zero, List.drop_succ_cons, List.drop_zero]
                  repeat still_step
                  refine wpStill_nil ?_
                  change wpList _ _ _ _ _ wr.drew
                  go_wp2_with fail
                  refine HCALL.out.mono ?_
                  rintro e w6 ⟨rfl, nv2, ns2, en2, g1, t1, b1, b2, k6⟩
                  have hl1 : (ns ++ [(⟨.func (.func F) #[] caps, k0, k1, .slice none 0 0⟩ : Nd)]).length = ns.length + 1 := by simp
                  have e1 : ns ++ [(⟨.func (.func F) #[] caps, k0, k1, .slice none 0 0⟩ : Nd)] ++ ns2 = ns ++ ((⟨.func (.func F) #[] caps, k0, k1, .slice none 0 0⟩ : Nd) :: ns2) := by simp
                  rw [hl1] at t1 ⊢
                  rw [e1] at g1 t1
                  obtain ⟨g2, cp2, rfl⟩ := g1.nds.open (by simp only [List.length_append, List.length_cons]; omega)
                  have c10 := Blk.cell g1.eng (i := 10) rfl
                  have hlt : ns.length < (ns ++ ((⟨.func (.func F) #[] caps, k0, k1, .slice none 0 0⟩ : Nd) :: ns2)).length := by simp
                  obtain ⟨_, hgl, hgf, n0, n1, n2, n3⟩ := g1.nds.at ns.length hlt
                  have HKID := Sd.mk (kids_one (x := x) (y := y) (lx := insideI bs x l) (ly := insideI bs y l) (F := 2 ^ (f' + 1)) ((HI1.out.2.trans (KeptN.below (Below.refl _ _).drew)).trans k6) g1 t1 b2)
                  obtain ⟨LN, hLN⟩ : ∃ LN, (ns ++ ((⟨.func (.func F) #[] caps, k0, k1, .slice none 0 0⟩ : Nd) :: ns2)).length = LN := ⟨_, rfl⟩
                  rw [hLN] at c10 hlt
                  clear g1 t1 b1 b2 k6 hl1 e1 hLN p0 c0 c1 c2 c3 c4 c5 c6 c7 c8 c9
                  go_wp2_with fail
                  go_roundw
                  case rel => exact ⟨1, rfl, ⟨.inr (.inl ⟨rfl, HKID.out⟩)⟩⟩
                  case measure => simp [intOf]
                · obtain ⟨nv, r, k0, k1, en5, h1, h2, h3, h4, _⟩ := HI
                  obtain ⟨a1, a2⟩ := h4 (by omega)
                  have h3' : r.length + 1 ≤ 2 ^ (f' + 1) := by omega
                  have hP2 := h2.blk HG5.out.eng HP5.out (by decide) (by decide)
                  have hQ2 := h2.blk HG5.out.eng HQ5.out (by decide) (by decide)
                  have p0 := hP2.cell (i := 1) rfl
                  have c0 := hQ2.cell (i := 10) rfl; have c1 := hQ2.cell (i := 11) rfl; have c2 := hQ2.cell (i := 12) rfl; have c3 := hQ2.cell (i := 13) rfl; have c4 := hQ2.cell (i := 14) rfl; have c5 := hQ2.cell (i := 15) rfl; have c6 := hQ2.cell (i := 16) rfl; have c7 := hQ2.cell (i := 17) rfl; have c8 := hQ2.cell (i := 18) rfl; have c9 := hQ2.cell (i := 19) rfl
                  have hp2 : OwnN wr.drew 0 (.slice QA (insideI bs y l).length qc) (insideI bs y l) := (h2.row HG5.out.eng Hq5.out (by decide) (by decide))
                  have hcall := HIC.out wr.drew y (insideI bs y l) l _ nv _ en5 HC5.out.gy rfl (fun i hi => HLI.out i (insideI_sub bs y l i hi)) (Nat.le_trans (insideI_len bs y l) hll) (h1.below (Below.refl _ _).drew) hp2 (by have := HPW.out; rw [List.length_append, List.length_cons]; omega)
                  rw [show ((d + 1 : Nat) : Int) = (d : Int) + 1 from by push_cast; rfl] at hcall
                  have HCALL := Sd.mk hcall
                  have HI1 := Sd.mk (And.intro h1 (And.intro h2 (And.intro a1 (And.intro a2 h3'))))
                  clear hP2 hQ2 hp2 hcall h1 h2 h3 h3' h4 a1 a2 HT
                  go_upto_region 25 with fail
                  refine wp_region_still_tail 10 (by kernel_rfl) (by kernel_rfl) ?_
                  change wpStill _ _ wr.drew _ _ _
                  simp only [List.take_succ_cons, List.take_zero, List.drop_succ_cons, List.drop_zero]
                  repeat still_step
                  refine wpStill_nil ?_
                  change wpList _ _ _ _ _ wr.drew
                  go_wp2_with fail
                  refine HCALL.out.mono ?_
                  rintro e w6 ⟨rfl, nv2, ns2, en2, g1, t1, b1, b2, k6⟩
                  obtain ⟨g2, cp2, rfl⟩ := g1.nds.open (by simp only [List.length_append, List.length_cons]; omega)
                  have c10 := Blk.cell g1.eng (i := 10) rfl
                  have hlt : ns.length < (ns ++ ((⟨.func (.func F) #[] caps, k0, k1, .slice none 0 0⟩ : Nd) :: r) ++ ns2).length := by simp
                  obtain ⟨_, hgl, hgf, n0, n1, n2, n3⟩ := g1.nds.at ns.length hlt
                  have HKID := Sd.mk (kids_two (F := 2 ^ (f' + 1)) (HI1.out.2.1.trans (KeptN.below (Below.refl _ _).drew)) (HI1.out.1.below (Below.refl _ _).drew) (HI1.out.2.2.2.1.beyond (Below.refl _ _).drew) HI1.out.2.2.1 HI1.out.2.2.2.2 k6 g1 t1 b2)
                  obtain ⟨LN, hLN⟩ : ∃ LN, (ns ++ ((⟨.func (.func F) #[] caps, k0, k1, .slice none 0 0⟩ : Nd) :: r) ++ ns2).length = LN := ⟨_, rfl⟩
                  rw [hLN] at c10 hlt
                  obtain ⟨LM, hLM⟩ : ∃ LM, (ns ++ ((⟨.func (.func F) #[] caps, k0, k1, .slice none 0 0⟩ : Nd) :: r)).length = LM := ⟨_, rfl⟩
                  rw [hLM] at HKID ⊢
                  clear g1 t1 b1 b2 k6 hLN hLM p0 c0 c1 c2 c3 c4 c5 c6 c7 c8 c9
                  go_wp2_with fail
                  go_roundw
                  case rel => exact ⟨2, rfl, ⟨.inr (.inr ⟨rfl, HKID.out⟩)⟩⟩
                  case measure => simp [intOf]
                · have HKID := Sd.mk HI
                  clear HI HT
                  go_wp2
                  go_ret
                  exact ⟨rfl, kids_done HKID.out HK5.out HG5.out.eng HC5.out HL5.out (by omega)⟩
theorem grow_any (c : Cfg) (tv lv bv : Value) (bs : List Bx) (E S base B D : Nat) (hbs : ∀ x ∈ bs, Good x) (hbl : bs.length ≤ 64) (hcb : c.binth = B) (hcd : c.depth = D) (hB1 : 1 ≤ B) (hBM : B ≤ 1000) (hDM : D ≤ 1000) :
    ∀ f d, d + f = D → GrowC c tv lv bv bs E S base B D f d
  | 0, d, hd => grow_step c tv lv bv bs E S base B D hbs hbl hcb hcd hB1 hBM hDM 0 d hd (fun f' h => by omega)
  | f + 1, d, hd => grow_step c tv lv bv bs E S base B D hbs hbl hcb hcd hB1 hBM hDM (f + 1) d hd (fun f' h => by
    obtain rfl : f = f' := by omega
    exact grow_any c tv lv bv bs E S base B D hbs hbl hcb hcd hB1 hBM hDM f (d + 1) (by omega))
end Go.Proofs.Ytljliopmphaoeaa
