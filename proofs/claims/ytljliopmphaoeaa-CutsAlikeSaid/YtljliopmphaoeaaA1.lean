/- Ask: the walk. -/
import Derived.Test.YtljliopmphaoeaaG4
namespace Go.Proofs.Ytljliopmphaoeaa
open Go Go.RowKit Go.Proofs.Ytljliopmphaoeaa.Q
/-- has the rule of this number the header? -/
def hitR (rs : List Rul) (h : Hdr) (i : Nat) : Bool := match rs[i]? with | none => false | some r => r.hit h
theorem hitR_box (rs : List Rul) (hrs : ∀ r ∈ rs, r.Wf ∧ r.may = true) (h : Hdr) : hitR rs h = hitI (boxesOf rs) h := by
  funext i
  unfold hitR hitI boxesOf
  rw [List.getElem?_map]
  cases e : rs[i]? with
  | none => rfl
  | some r => exact r.hit_box (hrs r (List.mem_of_getElem? e)).2 h
theorem hitR_at (rs : List Rul) (h : Hdr) (i : Nat) (hi : i < rs.length) : hitR rs h i = rs[i].hit h := by
  unfold hitR
  rw [List.getElem?_eq_getElem hi]
/-- what is told of the rules of a leaf, and how many were looked at -/
def verC (rs : List Rul) (d : Int) (h : Hdr) (m : List Nat) : Array Value := match m.find? (hitR rs h) with
  | none => #[.bool false, .int .i64 0, .int .i64 d]
  | some j => match rs[j]? with | none => #[] | some r => #[.bool true, .int .i64 r.id, .int .i64 r.act]
def rulesN (rs : List Rul) (h : Hdr) (m : List Nat) : Nat := match m.findIdx? (hitR rs h) with | none => m.length | some k => k + 1
theorem ver_hit (rs : List Rul) (d : Int) (h : Hdr) (m : List Nat) (k : Nat) (hk : k < m.length) (hm : m[k] < rs.length) (hb : ∀ j (hj : j < m.length), j < k → hitR rs h m[j] = false) (hit : rs[m[k]].hit h = true) :
    verC rs d h m = #[.bool true, .int .i64 rs[m[k]].id, .int .i64 rs[m[k]].act] ∧ rulesN rs h m = k + 1 := by
  have hk2 : hitR rs h m[k] = true := by rw [hitR_at _ _ _ hm]; exact hit
  have h1 : m.find? (hitR rs h) = some m[k] := by
    rw [List.find?_eq_some_iff_getElem]
    exact ⟨hk2, k, hk, rfl, fun j hj => by simp [hb j (by omega) hj]⟩
  have h2 : m.findIdx? (hitR rs h) = some k := by
    rw [List.findIdx?_eq_some_iff_getElem]
    exact ⟨hk, hk2, fun j hj => by simp [hb j (by omega) hj]⟩
  unfold verC rulesN
  rw [h1, h2]
  simp only []
  rw [List.getElem?_eq_getElem hm]
  refine ⟨?_, ?_⟩ <;> first | rfl | trivial
theorem ver_none (rs : List Rul) (d : Int) (h : Hdr) (m : List Nat) (hb : ∀ j (hj : j < m.length), hitR rs h m[j] = false) : verC rs d h m = #[.bool false, .int .i64 0, .int .i64 d] ∧ rulesN rs h m = m.length := by
  have h1 : m.find? (hitR rs h) = none := by
    rw [List.find?_eq_none]
    intro x hx
    obtain ⟨j, hj, rfl⟩ := List.mem_iff_getElem.1 hx
    simp [hb j hj]
  have h2 : m.findIdx? (hitR rs h) = none := by
    rw [List.findIdx?_eq_none_iff]
    intro x hx
    obtain ⟨j, hj, rfl⟩ := List.mem_iff_getElem.1 hx
    exact hb j hj
  unfold verC rulesN
  rw [h1, h2]
  exact ⟨rfl, rfl⟩
def stepC (n r d : Nat) : Array Value := #[.int .i64 n, .int .i64 r, .int .i64 d, .int .i64 0, .int .i64 0]
theorem Path.move {W W' : World} {ns : List Nd} {h : Hdr} {i d e : Nat} {m : List Nat} (hk1 : ∀ k u T, Blk W k #[u] T → Blk W' k #[u] T) (hk2 : ∀ v l, OwnN W 0 v l → OwnN W' 0 v l) (k : Path W ns h i d e m) : Path W' ns h i d e m := by
  induction k with
  | leaf i d nd m h1 h2 h3 => exact .leaf i d nd m h1 h2 (hk2 _ _ h3)
  | go i d e nd m f h1 h2 t ih => exact .go i d e nd m f h1 (h2.keep hk1) ih
/-- two cells of the steps are written -/
theorem Path.keep {W : World} {ns : List Nd} {h : Hdr} {i d e B : Nat} {m : List Nat} {u0 u1 u2 u3 u4 a b : Value} (k : Path W ns h i d e m) (hB : Blk W B #[u0, u1, u2, u3, u4] 38) : Path ((W.setCell ⟨B, 0, none⟩ a).setCell ⟨B, 2, none⟩ b) ns h i d e m := by
  have ho : Only W ((W.setCell ⟨B, 0, none⟩ a).setCell ⟨B, 2, none⟩ b) (fun j => j = B) := ((Only.refl W (fun j => j = B)).setCell ⟨B, 0, none⟩ a (fun _ => rfl)).setCell ⟨B, 2, none⟩ b (fun _ => rfl)
  exact k.move (fun j u T hj => hj.only ho (fun e => ne_size hj hB (by simp) e)) (fun v l hv => row_only hv ho (fun j hj e => row_ne hv hB (by decide) (by rw [hj, e])))
/-- Ask, on its way down -/
structure AskI (w : World) (H : Nat) (h : Hdr) (ns : List Nd) (n r i d e : Nat) (m : List Nat) (W : World) : Prop where
  below : Below w.heap.size w W
  hdr : Blk W H #[.int .u32 h.src, .int .u32 h.dst, .int .u16 h.sp, .int .u16 h.dp, .int .u8 h.pr] 28
  ver : Blk W (H + 1) #[.bool false, .int .i64 0, .int .i64 0] 36
  res : Blk W (H + 1 + 1) #[.int .i64 0, .int .i64 0, .int .i64 0, .int .i64 0, .int .i64 0] 38
  stp : Blk W (H + 1 + 1 + 1) #[.int .i64 n, .int .i64 r, .int .i64 d, .int .i64 0, .int .i64 0] 38
  path : Path W ns h i d e m
theorem Path.parts {W : World} {ns : List Nd} {h : Hdr} {i d e : Nat} {m : List Nat} (k : Path W ns h i d e m) : (∃ nd, ns[i]? = some nd ∧ nd.low = .nilFunc ∧ OwnN W 0 nd.list m ∧ d = e) ∨ (∃ nd f, ns[i]? = some nd ∧ LowAt W nd.low f ∧ Path W ns h (if f h = true then nd.k0 else nd.k1) (d + 1) e m) := by
  cases k with
  | leaf i d nd m h1 h2 h3 => exact .inl ⟨nd, h1, h2, h3, rfl⟩
  | go i d e nd m f h1 h2 t => exact .inr ⟨nd, f, h1, h2, t⟩
theorem AskI.next {w W w1 : World} {H : Nat} {h : Hdr} {ns : List Nd} {n r i d e i' : Nat} {m : List Nat} (k : AskI w H h ns n r i d e m W) (hH : w.heap.size ≤ H) (hb : Below W.heap.size W w1) (hp : Path w1 ns h i' (d + 1) e m) :
    AskI w H h ns (d + 1 + 1) r i' (d + 1) e m ((w1.setCell ⟨H + 1 + 1 + 1, 0, none⟩ (.int .i64 ((d : Int) + 1 + 1))).setCell ⟨H + 1 + 1 + 1, 2, none⟩ (.int .i64 ((d : Int) + 1))) := by
  have h1 := k.hdr.below hb k.hdr.lt
  have h2 := k.ver.below hb k.ver.lt
  have h3 := k.res.below hb k.res.lt
  have h4 := ((k.stp.below hb k.stp.lt).set 0 (.int .i64 ((d : Int) + 1 + 1))).set 2 (.int .i64 ((d : Int) + 1))
  simp only [List.setIfInBounds_toArray, List.set_cons_zero, List.set_cons_succ] at h4
  have ho : Only w1 ((w1.setCell ⟨H + 1 + 1 + 1, 0, none⟩ (.int .i64 ((d : Int) + 1 + 1))).setCell ⟨H + 1 + 1 + 1, 2, none⟩ (.int .i64 ((d : Int) + 1))) (fun j => j = H + 1 + 1 + 1) := ((Only.refl w1 (fun j => j = H + 1 + 1 + 1)).setCell ⟨H + 1 + 1 + 1, 0, none⟩ _ (fun _ => rfl)).setCell ⟨H + 1 + 1 + 1, 2, none⟩ _ (fun _ => rfl)
  have hbw := beyond k.below hb
  refine ⟨hbw.trans (ho.below _ hbw.size (fun j hj => by omega)), h1.only ho (by omega), h2.only ho (by omega), h3.only ho (by omega), by push_cast; exact h4, ?_⟩
  exact hp.keep (k.stp.below hb k.stp.lt)
/-- one rule more was looked at -/
theorem AskI.rule {w W : World} {H : Nat} {h : Hdr} {ns : List Nd} {n r i d e : Nat} {m l : List Nat} {v : Value} (k : AskI w H h ns n r i d e m W) (hv : OwnN W 0 v l) (hH : w.heap.size ≤ H) :
    AskI w H h ns n (r + 1) i d e m (W.setCell ⟨H + 1 + 1 + 1, 1, none⟩ (.int .i64 ((r : Int) + 1))) ∧ OwnN (W.setCell ⟨H + 1 + 1 + 1, 1, none⟩ (.int .i64 ((r : Int) + 1))) 0 v l := by
  have h4 := k.stp.set 1 (.int .i64 ((r : Int) + 1))
  simp only [List.setIfInBounds_toArray, List.set_cons_zero, List.set_cons_succ] at h4
  have ho : Only W (W.setCell ⟨H + 1 + 1 + 1, 1, none⟩ (.int .i64 ((r : Int) + 1))) (fun j => j = H + 1 + 1 + 1) := (Only.refl W (fun j => j = H + 1 + 1 + 1)).setCell ⟨H + 1 + 1 + 1, 1, none⟩ _ (fun _ => rfl)
  refine ⟨⟨k.below.trans (ho.below _ k.below.size (fun j hj => by omega)), k.hdr.only ho (by omega), k.ver.only ho (by omega), k.res.only ho (by omega), by push_cast; exact h4, ?_⟩, row_only hv ho (fun j hj e => row_ne hv k.stp (by decide) (by rw [hj, e]))⟩
  exact k.path.move (fun j u T hj => hj.only ho (fun e => ne_size hj k.stp (by simp) e)) (fun v l hv => row_only hv ho (fun j hj e => row_ne hv k.stp (by decide) (by rw [hj, e])))
theorem AskI.more {w W W' : World} {H : Nat} {h : Hdr} {ns : List Nd} {n r i d e : Nat} {m : List Nat} (k : AskI w H h ns n r i d e m W) (hb : Below W.heap.size W W') : AskI w H h ns n r i d e m W' :=
  ⟨beyond k.below hb, k.hdr.below hb k.hdr.lt, k.ver.below hb k.ver.lt, k.res.below hb k.res.lt, k.stp.below hb k.stp.lt, k.path.beyond hb⟩
/-- Ask, over a leaf's rules -/
structure LeafI (w : World) (H : Nat) (h : Hdr) (rs : List Rul) (ns : List Nd) (i e : Nat) (v : Value) (m : List Nat) (k : Nat) (W : World) : Prop where
  ask : AskI w H h ns (e + 1) k i e e m W
  own : OwnN W 0 v m
  no : ∀ j (hj : j < m.length), j < k → hitR rs h m[j] = false
def depthOf (W : World) (B : Nat) : Nat := match W.cell? ⟨B, 2, none⟩ with | some (.int _ n) => n.toNat | _ => 0
theorem AskI.depth {w W : World} {H : Nat} {h : Hdr} {ns : List Nd} {n r i d e : Nat} {m : List Nat} (k : AskI w H h ns n r i d e m W) : depthOf W (H + 1 + 1 + 1) = d := by
  unfold depthOf
  rw [k.stp.cell (i := 2) rfl]
  rfl
theorem fn_neq (F : FuncId) (caps : Array Value) (w : World) : (binOp .neq 87 (.func (.func F) #[] caps) .nilFunc).run Try.prog w = .ok (.bool true) w := by kernel_rfl
theorem nil_neq (w : World) : (binOp .neq 87 .nilFunc .nilFunc).run Try.prog w = .ok (.bool false) w := by kernel_rfl
theorem fillV {W V' : World} {P Q : Nat} {T U : TypeId} {a0 a1 a2 b0 b1 b2 b3 b4 p0 p1 p2 q0 q1 q2 q3 q4 : Value} (h1 : Blk W P #[a0, a1, a2] T) (h2 : Blk W Q #[b0, b1, b2, b3, b4] U) (hne : P ≠ Q) (hV : ((((((((W.setCell ⟨P, 0, none⟩ p0).setCell ⟨P, 1, none⟩ p1).setCell ⟨P, 2, none⟩ p2).setCell ⟨Q, 0, none⟩ q0).setCell ⟨Q, 1, none⟩ q1).setCell ⟨Q, 2, none⟩ q2).setCell ⟨Q, 3, none⟩ q3).setCell ⟨Q, 4, none⟩ q4).drew = V') :
    Blk V' P #[p0, p1, p2] T ∧ Blk V' Q #[q0, q1, q2, q3, q4] U ∧ Only W V' (fun k => k = P ∨ k = Q) := by
  subst hV
  have k1 := ((h1.set 0 p0).set 1 p1).set 2 p2
  simp only [List.setIfInBounds_toArray, List.set_cons_zero, List.set_cons_succ] at k1
  have k2 := (((((((h2.other (a := ⟨P, 0, none⟩) p0 hne.symm).other (a := ⟨P, 1, none⟩) p1 hne.symm).other (a := ⟨P, 2, none⟩) p2 hne.symm).set 0 q0).set 1 q1).set 2 q2).set 3 q3).set 4 q4
  simp only [List.setIfInBounds_toArray, List.set_cons_zero, List.set_cons_succ] at k2
  refine ⟨?_, k2.drew, ?_⟩
  · refine Blk.drew ?_
    iterate 5 refine Blk.other ?_ _ hne
    exact k1
  · refine Only.drew ?_
    iterate 5 refine Only.setCell ?_ _ _ (fun _ => .inr rfl)
    iterate 3 refine Only.setCell ?_ _ _ (fun _ => .inl rfl)
    exact Only.refl _ _
set_option maxHeartbeats 2000000 in
set_option maxRecDepth 100000 in
theorem ask_path (E : Nat) (c : Cfg) (rs : List Rul) (tv lv bv nv : Value) (en : Nat) (ns : List Nd) (h : Hdr) (e : Nat) (m : List Nat) (w : World) (hh : h.Wf) (hrs : ∀ r ∈ rs, r.Wf ∧ r.may = true) (hmm : ∀ j ∈ m, j < rs.length) (hml : m.length ≤ 1000) (he : e ≤ 1000)
    (hE : EngAt w E c tv lv bv nv en) (hL : OwnR w 0 lv rs) (hN : OwnD w 0 nv ns) (hP : Path w ns h 0 0 e m) :
    Calls Try.prog 12 #[.pointer (some ⟨E, 0, none⟩), .agg #[.int .u32 h.src, .int .u32 h.dst, .int .u16 h.sp, .int .u16 h.dp, .int .u8 h.pr]] w fun x w' => x = .returned (.tuple #[.agg (verC rs c.dflt h m), .agg (stepC (e + 1) (rulesN rs h m) e)]) ∧ Below w.heap.size w w' := by
  have hns : 0 < ns.length := by
    rcases hP.parts with ⟨nd, h1, _⟩ | ⟨nd, f, h1, _⟩ <;> exact (List.getElem?_eq_some_iff.1 h1).1
  obtain ⟨g, cp, rfl⟩ := hN.open hns
  obtain ⟨LVA, lvc, rfl⟩ := hL.slice
  have HE := Sd.mk hE
  have HL := Sd.mk hL
  have HN := Sd.mk hN
  have HRS := Sd.mk hrs
  have HMM := Sd.mk hmm
  have hI0 : AskI w w.heap.size h ns 1 0 0 0 e m ((((w.alloc (.cells #[.int .u32 h.src, .int .u32 h.dst, .int .u16 h.sp, .int .u16 h.dp, .int .u8 h.pr] 28)).alloc (.cells #[.bool false, .int .i64 0, .int .i64 0] 36)).alloc (.cells #[.int .i64 0, .int .i64 0, .int .i64 0, .int .i64 0, .int .i64 0] 38)).alloc (.cells #[.int .i64 1, .int .i64 0, .int .i64 0, .int .i64 0, .int .i64 0] 38)) := by
    have hb : Below w.heap.size w ((((w.alloc (.cells #[.int .u32 h.src, .int .u32 h.dst, .int .u16 h.sp, .int .u16 h.dp, .int .u8 h.pr] 28)).alloc (.cells #[.bool false, .int .i64 0, .int .i64 0] 36)).alloc (.cells #[.int .i64 0, .int .i64 0, .int .i64 0, .int .i64 0, .int .i64 0] 38)).alloc (.cells #[.int .i64 1, .int .i64 0, .int .i64 0, .int .i64 0, .int .i64 0] 38)) := below_alloc (below_alloc (below_alloc (below_alloc (Below.refl _ _) _) _) _) _
    exact ⟨hb, (((Blk.new w _ _).alloc _).alloc _).alloc _, ((blkN (X := w.alloc _) (N := w.heap.size + 1) (by simp) _ _).alloc _).alloc _, (blkN (X := (w.alloc _).alloc _) (N := w.heap.size + 1 + 1) (by simp) _ _).alloc _, blkN (X := ((w.alloc _).alloc _).alloc _) (N := w.heap.size + 1 + 1 + 1) (by simp) _ _, hP.beyond hb⟩
  have HI0 := Sd.mk hI0
  clear hE hL hN hP hrs hmm hI0
  go_enter Try.func12, Try.ntmps12
  go_wp2
  go_loopw [7] (fun iv wr => ∃ i d : Nat, iv = .int .i64 i ∧ d ≤ e ∧ Sd (AskI w w.heap.size h ns (d + 1) 0 i d e m wr)) (fun _ wr => e - depthOf wr (w.heap.size + 1 + 1 + 1))
  case atStart => exact ⟨0, 0, rfl, by omega, HI0⟩
  case round =>
    obtain ⟨i, d, rfl, hde, HI⟩ := hrel
    have HDP := Sd.mk HI.out.depth
    have hEr := Blk.below HE.out HI.out.below (Blk.lt HE.out)
    have c10 := Blk.cell hEr (i := 10) rfl
    have hNr : OwnD wr 0 (.slice (some ⟨g, 0, none⟩) ns.length cp) ns := ownsRow_below HN.out HI.out.below fun g hg => (HN.out.lt g hg).2
    rcases HI.out.path.parts with ⟨nd, hnd, hlow, hlist, hd⟩ | ⟨nd, f, hnd, hlow, hp⟩
    · obtain ⟨hi, hge⟩ := List.getElem?_eq_some_iff.1 hnd
      obtain ⟨_, hgl, hgf, n0, n1, n2, n3⟩ := hNr.at i hi
      rw [hge] at n0 n1 n2 n3
      rw [hlow] at n0
      have hfn := nil_neq
      obtain ⟨LA, lc, hll, _⟩ := hlist.slice
      rw [hll] at n3 hlist
      have HL0 : Sd (LeafI w w.heap.size h rs ns i e (.slice LA m.length lc) m 0 wr) := ⟨by
        have := HI.out
        rw [hd] at this
        exact ⟨this, hlist, fun j _ hj => by omega⟩⟩
      clear HI HDP hEr hNr hnd hlow hlist hge hll hd hde
      go_wp2
      go_loopw [62] (fun iv wr => ∃ k : Nat, k ≤ m.length ∧ iv = .int .i64 k ∧ Sd (LeafI w w.heap.size h rs ns i e (.slice LA m.length lc) m k wr)) (fun iv _ => m.length - (intOf iv).toNat)
      case atStart => exact ⟨0, by omega, rfl, HL0⟩
      case round =>
        obtain ⟨k, hk, rfl, HK⟩ := hrel
        clear c10 hgl hgf n0 n1 n2 n3 hfn HL0
        by_cases hlt : k < m.length
        · obtain ⟨g3, o3, rfl, hg3, q0⟩ := HK.out.own.at.at' k hlt
          have hks := HK.out.ask.stp
          have s1 := hks.cell (i := 1) rfl
          have sf := hks.frozen
          have sl := hks.lt
          have hmk := HMM.out m[k] (List.getElem_mem _)
          obtain ⟨r1, r2⟩ := HK.out.ask.rule HK.out.own (Nat.le_refl _)
          obtain ⟨W2, hW2⟩ : ∃ W2, wr.setCell ⟨w.heap.size + 1 + 1 + 1, 1, none⟩ (.int .i64 ((k : Int) + 1)) = W2 := ⟨_, rfl⟩
          rw [hW2] at r1 r2
          have hE2 := Blk.below HE.out r1.below (Blk.lt HE.out)
          have c8 := Blk.cell hE2 (i := 8) rfl
          have hR2 : OwnR W2 0 (.slice LVA rs.length lvc) rs := ownsRow_below HL.out r1.below fun g hg => (HL.out.lt g hg).2
          obtain ⟨g4, o4, rfl, hgl, t0, t1, t2, t3, t4, t5, t6, t7, t8, t9, t10, t11⟩ := hR2.ruls.cells m[k] hmk
          have kh := r1.hdr
          obtain ⟨b0, b1, b2, b3, b4⟩ := show W2.cell? ⟨w.heap.size, 0, none⟩ = some (.int .u32 h.src) ∧ W2.cell? ⟨w.heap.size, 1, none⟩ = some (.int .u32 h.dst) ∧ W2.cell? ⟨w.heap.size, 2, none⟩ = some (.int .u16 h.sp) ∧ W2.cell? ⟨w.heap.size, 3, none⟩ = some (.int .u16 h.dp) ∧ W2.cell? ⟨w.heap.size, 4, none⟩ = some (.int .u8 h.pr) from ⟨kh.cell (i := 0) rfl, kh.cell (i := 1) rfl, kh.cell (i := 2) rfl, kh.cell (i := 3) rfl, kh.cell (i := 4) rfl⟩
          have HR1 := Sd.mk (And.intro r1 r2)
          have HMA := Sd.mk (ruleMatch_any rs[m[k]] (HRS.out _ (List.getElem_mem _)).1 h hh W2.drew)
          clear hks hE2 hR2 kh r1 r2
          cases hit : rs[m[k]].hit h with
          | true =>
            have hma := HMA.out
            rw [hit] at hma
            have HM1 := Sd.mk hma
            have HV := Sd.mk (ver_hit rs c.dflt h m k hlt hmk HK.out.no hit)
            clear hma HMA hit
            go_upto_region 16 with fail
            try rw [hW2]
            refine wp_region_still_tail 8 (by kernel_rfl) (by kernel_rfl) ?_
            change wpStill _ _ W2.drew _ _ _
            simp only [List.take_succ_cons, List.take_zero, List.drop_succ_cons, List.drop_zero]
            repeat still_step
            refine wpStill_nil ?_
            change wpList _ _ _ _ _ W2.drew
            go_wp2_with fail
            refine HM1.out.mono ?_
            rintro x1 w3 ⟨rfl, hb0⟩
            have hbw : Below W2.heap.size W2 w3 := ((Below.refl W2.heap.size W2).drew).trans hb0
            have hm := HR1.out.1.more hbw
            clear hb0
            clear c8
            have hE3 := Blk.below HE.out hm.below (Blk.lt HE.out)
            have c8 := Blk.cell hE3 (i := 8) rfl
            have p0 := hm.ver.at
            have pf := hm.ver.frozen
            have pl := hm.ver.lt
            have y0 := hm.res.at
            have yf := hm.res.frozen
            have yl := hm.res.lt
            clear s1 sf sl
            have s0 := hm.stp.cell (i := 0) rfl
            have s1 := hm.stp.cell (i := 1) rfl
            have s2 := hm.stp.cell (i := 2) rfl
            have s3 := hm.stp.cell (i := 3) rfl
            have s4 := hm.stp.cell (i := 4) rfl
            have sl := hm.stp.lt
            have n5 : w.heap.size + 1 ≠ w.heap.size + 1 + 1 := by omega
            have HPY := Sd.mk (And.intro hm.ver hm.res)
            have HPY2 := Sd.mk hm.below
            clear hE3
            have e0 := (hbw.cell (World.block_lt_of_cell? W2 _ t0)).trans t0
            have e11 := (hbw.cell (World.block_lt_of_cell? W2 _ t11)).trans t11
            clear hbw hm b0 b1 b2 b3 b4 t0 t1 t2 t3 t4 t5 t6 t7 t8 t9 t10 t11 hW2 q0 hgl hg3
            go_upto_region 17 with fail
            go_region
            clear p0 pf pl y0 yf yl s0 s1 s2 s3 s4 sl n5 e0 e11 c8
            obtain ⟨V', hV⟩ : ∃ V', ((((((((w3.setCell ⟨w.heap.size + 1, 0, none⟩ (.bool true)).setCell ⟨w.heap.size + 1, 1, none⟩ (.int .i64 rs[m[k]].id)).setCell ⟨w.heap.size + 1, 2, none⟩ (.int .i64 rs[m[k]].act)).setCell ⟨w.heap.size + 1 + 1, 0, none⟩ (.int .i64 ((e : Int) + 1))).setCell ⟨w.heap.size + 1 + 1, 1, none⟩ (.int .i64 ((k : Int) + 1))).setCell ⟨w.heap.size + 1 + 1, 2, none⟩ (.int .i64 (e : Int))).setCell ⟨w.heap.size + 1 + 1, 3, none⟩ (.int .i64 0)).setCell ⟨w.heap.size + 1 + 1, 4, none⟩ (.int .i64 0)).drew = V' := ⟨_, rfl⟩
            obtain ⟨k1, k2, ho⟩ := fillV HPY.out.1 HPY.out.2 (by omega) hV
            rw [hV]
            have HO : Sd (Below w.heap.size w V') := ⟨HPY2.out.trans (ho.below _ HPY2.out.size (fun j hj => by omega))⟩
            obtain ⟨x0, x1, x2⟩ := show V'.cell? ⟨w.heap.size + 1, 0, none⟩ = some (.bool true) ∧ V'.cell? ⟨w.heap.size + 1, 1, none⟩ = some (.int .i64 rs[m[k]].id) ∧ V'.cell? ⟨w.heap.size + 1, 2, none⟩ = some (.int .i64 rs[m[k]].act) from ⟨k1.cell (i := 0) rfl, k1.cell (i := 1) rfl, k1.cell (i := 2) rfl⟩
            obtain ⟨z0, z1, z2, z3, z4⟩ := show V'.cell? ⟨w.heap.size + 1 + 1, 0, none⟩ = some (.int .i64 ((e : Int) + 1)) ∧ V'.cell? ⟨w.heap.size + 1 + 1, 1, none⟩ = some (.int .i64 ((k : Int) + 1)) ∧ V'.cell? ⟨w.heap.size + 1 + 1, 2, none⟩ = some (.int .i64 (e : Int)) ∧ V'.cell? ⟨w.heap.size + 1 + 1, 3, none⟩ = some (.int .i64 0) ∧ V'.cell? ⟨w.heap.size + 1 + 1, 4, none⟩ = some (.int .i64 0) from ⟨k2.cell (i := 0) rfl, k2.cell (i := 1) rfl, k2.cell (i := 2) rfl, k2.cell (i := 3) rfl, k2.cell (i := 4) rfl⟩
            clear k1 k2 ho hV
            go_wp2
            refine bodyPost_ret (v := .tuple #[.agg #[.bool true, .int .i64 rs[m[k]].id, .int .i64 rs[m[k]].act], .agg #[.int .i64 ((e : Int) + 1), .int .i64 ((k : Int) + 1), .int .i64 (e : Int), .int .i64 0, .int .i64 0]]) (by simp [results, Try.results12, go_sem, *]) rfl ⟨?_, HO.out⟩
            rw [HV.out.1, HV.out.2]
            unfold stepC
            push_cast
            rfl
          | false =>
            have hma := HMA.out
            rw [hit] at hma
            have HM1 := Sd.mk hma
            have hno : ∀ j (hj : j < m.length), j < k + 1 → hitR rs h m[j] = false := fun j hj hjk => by
              by_cases ej : j = k
              · subst ej; rw [hitR_at _ _ _ hmk]; exact hit
              · exact HK.out.no j hj (by omega)
            have HNO := Sd.mk hno
            clear hma HMA hit hno
            go_upto_region 16 with fail
            try rw [hW2]
            refine wp_region_still_tail 8 (by kernel_rfl) (by kernel_rfl) ?_
            change wpStill _ _ W2.drew _ _ _
            simp only [List.take_succ_cons, List.take_zero, List.drop_succ_cons, List.drop_zero]
            repeat still_step
            refine wpStill_nil ?_
            change wpList _ _ _ _ _ W2.drew
            go_wp2_with fail
            refine HM1.out.mono ?_
            rintro x1 w3 ⟨rfl, hb0⟩
            have hbw : Below W2.heap.size W2 w3 := ((Below.refl W2.heap.size W2).drew).trans hb0
            have hm := HR1.out.1.more hbw
            clear hb0
            have HLF : Sd (LeafI w w.heap.size h rs ns i e (.slice (some ⟨g3, o3, none⟩) m.length lc) m (k + 1) w3) := ⟨HR1.out.1.more hbw, HR1.out.2.below hbw, HNO.out⟩
            clear hbw hm s1 sf sl b0 b1 b2 b3 b4 t0 t1 t2 t3 t4 t5 t6 t7 t8 t9 t10 t11 hW2 q0 hgl hg3 c8
            go_wp2_with fail
            go_roundw
            case rel => exact ⟨k + 1, by omega, by go_num, HLF⟩
            case measure => simp [intOf]; omega
        · have HKM : Sd (k = m.length) := ⟨by omega⟩
          have HV := Sd.mk (ver_none rs c.dflt h m (fun j hj => HK.out.no j hj (by omega)))
          have hm := HK.out.ask
          have hE3 := Blk.below HE.out hm.below (Blk.lt HE.out)
          have c1 := Blk.cell hE3 (i := 1) rfl
          have p0 := hm.ver.at
          have pf := hm.ver.frozen
          have pl := hm.ver.lt
          have y0 := hm.res.at
          have yf := hm.res.frozen
          have yl := hm.res.lt
          have s0 := hm.stp.cell (i := 0) rfl
          have s1 := hm.stp.cell (i := 1) rfl
          have s2 := hm.stp.cell (i := 2) rfl
          have s3 := hm.stp.cell (i := 3) rfl
          have s4 := hm.stp.cell (i := 4) rfl
          have sl := hm.stp.lt
          have n5 : w.heap.size + 1 ≠ w.heap.size + 1 + 1 := by omega
          have HPY := Sd.mk (And.intro hm.ver hm.res)
          have HPY2 := Sd.mk hm.below
          clear hE3 hm
          go_upto_region 19 with fail
          go_region
          clear p0 pf pl y0 yf yl s0 s1 s2 s3 s4 sl n5 c1
          obtain ⟨V', hV⟩ : ∃ V', ((((((((wr.setCell ⟨w.heap.size + 1, 0, none⟩ (.bool false)).setCell ⟨w.heap.size + 1, 1, none⟩ (.int .i64 0)).setCell ⟨w.heap.size + 1, 2, none⟩ (.int .i64 c.dflt)).setCell ⟨w.heap.size + 1 + 1, 0, none⟩ (.int .i64 ((e : Int) + 1))).setCell ⟨w.heap.size + 1 + 1, 1, none⟩ (.int .i64 (k : Int))).setCell ⟨w.heap.size + 1 + 1, 2, none⟩ (.int .i64 (e : Int))).setCell ⟨w.heap.size + 1 + 1, 3, none⟩ (.int .i64 0)).setCell ⟨w.heap.size + 1 + 1, 4, none⟩ (.int .i64 0)).drew = V' := ⟨_, rfl⟩
          obtain ⟨k1, k2, ho⟩ := fillV HPY.out.1 HPY.out.2 (by omega) hV
          rw [hV]
          have HO : Sd (Below w.heap.size w V') := ⟨HPY2.out.trans (ho.below _ HPY2.out.size (fun j hj => by omega))⟩
          obtain ⟨x0, x1, x2⟩ := show V'.cell? ⟨w.heap.size + 1, 0, none⟩ = some (.bool false) ∧ V'.cell? ⟨w.heap.size + 1, 1, none⟩ = some (.int .i64 0) ∧ V'.cell? ⟨w.heap.size + 1, 2, none⟩ = some (.int .i64 c.dflt) from ⟨k1.cell (i := 0) rfl, k1.cell (i := 1) rfl, k1.cell (i := 2) rfl⟩
          obtain ⟨z0, z1, z2, z3, z4⟩ := show V'.cell? ⟨w.heap.size + 1 + 1, 0, none⟩ = some (.int .i64 ((e : Int) + 1)) ∧ V'.cell? ⟨w.heap.size + 1 + 1, 1, none⟩ = some (.int .i64 (k : Int)) ∧ V'.cell? ⟨w.heap.size + 1 + 1, 2, none⟩ = some (.int .i64 (e : Int)) ∧ V'.cell? ⟨w.heap.size + 1 + 1, 3, none⟩ = some (.int .i64 0) ∧ V'.cell? ⟨w.heap.size + 1 + 1, 4, none⟩ = some (.int .i64 0) from ⟨k2.cell (i := 0) rfl, k2.cell (i := 1) rfl, k2.cell (i := 2) rfl, k2.cell (i := 3) rfl, k2.cell (i := 4) rfl⟩
          clear k1 k2 ho hV
          go_wp2
          refine bodyPost_ret (v := .tuple #[.agg #[.bool false, .int .i64 0, .int .i64 c.dflt], .agg #[.int .i64 ((e : Int) + 1), .int .i64 (k : Int), .int .i64 (e : Int), .int .i64 0, .int .i64 0]]) (by simp [results, Try.results12, go_sem, *]) rfl ⟨?_, HO.out⟩
          rw [HV.out.1, HV.out.2, HKM.out]
          unfold stepC
          push_cast
          rfl
    · obtain ⟨hi, hge⟩ := List.getElem?_eq_some_iff.1 hnd
      obtain ⟨_, hgl, hgf, n0, n1, n2, n3⟩ := hNr.at i hi
      rw [hge] at n0 n1 n2 n3
      obtain ⟨F, caps, hl, hent, hcall⟩ := hlow.call
      rw [hl] at n0
      unfold Entered at hent
      have hfn := fn_neq F caps
      have kh := HI.out.hdr
      obtain ⟨b0, b1, b2, b3, b4⟩ := show wr.cell? ⟨w.heap.size, 0, none⟩ = some (.int .u32 h.src) ∧ wr.cell? ⟨w.heap.size, 1, none⟩ = some (.int .u32 h.dst) ∧ wr.cell? ⟨w.heap.size, 2, none⟩ = some (.int .u16 h.sp) ∧ wr.cell? ⟨w.heap.size, 3, none⟩ = some (.int .u16 h.dp) ∧ wr.cell? ⟨w.heap.size, 4, none⟩ = some (.int .u8 h.pr) from ⟨kh.cell (i := 0) rfl, kh.cell (i := 1) rfl, kh.cell (i := 2) rfl, kh.cell (i := 3) rfl, kh.cell (i := 4) rfl⟩
      have HCL := Sd.mk (hcall h hh)
      have HPP := Sd.mk hp
      have HGE := Sd.mk hge
      clear hcall hp kh hEr hNr hnd hlow hl hge
      cases hf : f h with
      | true =>
        have hcl := HCL.out wr.drew (Below.refl _ _).drew
        rw [hf] at hcl
        have hpp := HPP.out
        rw [if_pos hf] at hpp
        have HC1 := Sd.mk hcl
        have HP1 := Sd.mk hpp
        clear hcl hpp HCL HPP hf
        go_upto_region 7 with fail
        refine wp_region_still_tail 9 (by kernel_rfl) (by kernel_rfl) ?_
        change wpStill _ _ wr.drew _ _ _
        simp only [List.take_succ_cons, List.take_zero, List.drop_succ_cons, List.drop_zero]
        repeat still_step
        refine wpStill_nil ?_
        change wpList _ _ _ _ _ wr.drew
        go_wp2_with fail
        refine HC1.out.mono ?_
        rintro x1 w1 ⟨rfl, hb0⟩
        have hb : Below wr.heap.size wr w1 := ((Below.refl wr.heap.size wr).drew).trans hb0
        clear hb0
        have hbw := beyond HI.out.below hb
        have hEr := Blk.below HE.out hbw (Blk.lt HE.out)
        clear c10 hgl hgf n0 n1 n2 n3 b0 b1 b2 b3 b4 hent hfn
        have c10 := Blk.cell hEr (i := 10) rfl
        have hNr : OwnD w1 0 (.slice (some ⟨g, 0, none⟩) ns.length cp) ns := ownsRow_below HN.out hbw fun g hg => (HN.out.lt g hg).2
        obtain ⟨_, hgl, hgf, n0, n1, n2, n3⟩ := hNr.at i hi
        rw [HGE.out] at n1 n2
        have ks := HI.out.stp.below hb HI.out.stp.lt
        have s0 := ks.cell (i := 0) rfl
        have s2 := ks.cell (i := 2) rfl
        have sf := ks.frozen
        have sl := ks.lt
        have HNX := Sd.mk (HI.out.next (Nat.le_refl _) hb (HP1.out.beyond hb))
        have hle := HP1.out.le
        clear hbw hEr hNr ks hb n0 n3
        go_wp2_with fail
        go_roundw
        case rel => exact ⟨nd.k0, d + 1, rfl, hle, HNX⟩
        case measure => rw [HDP.out, HNX.out.depth]; omega
      | false =>
        have hcl := HCL.out wr.drew (Below.refl _ _).drew
        rw [hf] at hcl
        have hpp := HPP.out
        rw [if_neg (by simp [hf])] at hpp
        have HC1 := Sd.mk hcl
        have HP1 := Sd.mk hpp
        clear hcl hpp HCL HPP hf
        go_upto_region 7 with fail
        refine wp_region_still_tail 9 (by kernel_rfl) (by kernel_rfl) ?_
        change wpStill _ _ wr.drew _ _ _
        simp only [List.take_succ_cons, List.take_zero, List.drop_succ_cons, List.drop_zero]
        repeat still_step
        refine wpStill_nil ?_
        change wpList _ _ _ _ _ wr.drew
        go_wp2_with fail
        refine HC1.out.mono ?_
        rintro x1 w1 ⟨rfl, hb0⟩
        have hb : Below wr.heap.size wr w1 := ((Below.refl wr.heap.size wr).drew).trans hb0
        clear hb0
        have hbw := beyond HI.out.below hb
        have hEr := Blk.below HE.out hbw (Blk.lt HE.out)
        clear c10 hgl hgf n0 n1 n2 n3 b0 b1 b2 b3 b4 hent hfn
        have c10 := Blk.cell hEr (i := 10) rfl
        have hNr : OwnD w1 0 (.slice (some ⟨g, 0, none⟩) ns.length cp) ns := ownsRow_below HN.out hbw fun g hg => (HN.out.lt g hg).2
        obtain ⟨_, hgl, hgf, n0, n1, n2, n3⟩ := hNr.at i hi
        rw [HGE.out] at n1 n2
        have ks := HI.out.stp.below hb HI.out.stp.lt
        have s0 := ks.cell (i := 0) rfl
        have s2 := ks.cell (i := 2) rfl
        have sf := ks.frozen
        have sl := ks.lt
        have HNX := Sd.mk (HI.out.next (Nat.le_refl _) hb (HP1.out.beyond hb))
        have hle := HP1.out.le
        clear hbw hEr hNr ks hb n0 n3
        go_wp2_with fail
        go_roundw
        case rel => exact ⟨nd.k1, d + 1, rfl, hle, HNX⟩
        case measure => rw [HDP.out, HNX.out.depth]; omega
end Go.Proofs.Ytljliopmphaoeaa
