/- Two engines. -/
import Derived.Test.YtljliopmphaoeaaML
namespace Go.Proofs.Ytljliopmphaoeaa
open Go Go.RowKit Go.Proofs.Ytljliopmphaoeaa.Q
theorem row_wide {W : World} {base : Nat} {v : Value} {rs : List Rul} {j : Nat} (h : OwnR W base v rs) (hj : v.ownBlock = some j) : ∃ cs, Blk W j cs 60 ∧ cs.size ≠ 1 := by
  rcases h.2 with ⟨h1, _⟩ | ⟨g, cap, cur, h1, _, h3, _, _, h6, _⟩
  · rw [h1] at hj; cases hj
  · rw [h1] at hj
    have : g = j := by simpa [Value.ownBlock] using hj
    subst this
    exact ⟨cur, h3, by omega⟩
theorem EngP.wide {Ey Ty b2 : Nat} {cy : Cfg} {ry : List Rul} {Ny : Nat → Prop} {W : World} (hy : EngP Ey Ty b2 cy W Ny ry) (j : Nat) (hs : Ny j) : Wide W j := by
  obtain ⟨tv2, lv2, k2, hN2⟩ := hy
  rcases (hN2 j).1 hs with rfl | rfl | h | h
  · obtain ⟨bv, nv, en, ns, l0, h1, _⟩ := k2.eng
    exact ⟨_, _, h1, .inl (by simp), by decide, by decide⟩
  · exact ⟨_, _, k2.tab, .inl (by simp), by decide, by decide⟩
  · obtain ⟨cs, h1, h2⟩ := row_wide k2.own h
    exact ⟨cs, _, h1, .inl h2, by decide, by decide⟩
  · obtain ⟨cs, h1, h2⟩ := row_wide k2.lst h
    exact ⟨cs, _, h1, .inl h2, by decide, by decide⟩
/-- an engine stays, where only others' blocks are written -/
theorem EngP.alien {Ex Tx bx : Nat} {cx : Cfg} {rx : List Rul} {Nx S : Nat → Prop} {W W' : World} (hx : EngP Ex Tx bx cx W Nx rx) (ho : Only W W' S) (hd : ∀ k, k < W.heap.size → S k → ¬ Nx k ∧ Wide W k) : EngP Ex Tx bx cx W' Nx rx := by
  obtain ⟨tv, lv, k, hN⟩ := hx
  exact ⟨tv, lv, k.only ho (fun j hj hs => ⟨fun e => (hd j hj hs).1 ((hN j).2 (.inl e)), fun e => (hd j hj hs).1 ((hN j).2 (.inr (.inl e))), fun e => (hd j hj hs).1 ((hN j).2 (.inr (.inr (.inl e)))), fun e => (hd j hj hs).1 ((hN j).2 (.inr (.inr (.inr e)))), (hd j hj hs).2⟩), hN⟩
/-- what it answers is the same in every world in which only others' blocks were written -/
theorem EngP.tells {Ex Tx bx : Nat} {cx : Cfg} {rx : List Rul} {Nx : Nat → Prop} {W : World} (hx : EngP Ex Tx bx cx W Nx rx) (h : Hdr) (hh : h.Wf) : ∃ s0 s1 s2 s3 s4 t0 t1 t2 t3 : Int, ∀ (W' : World) (S : Nat → Prop), Only W W' S → (∀ k, k < W.heap.size → S k → ¬ Nx k ∧ Wide W k) →
    Calls Try.prog 12 #[.pointer (some ⟨Ex, 0, none⟩), .agg #[.int .u32 h.src, .int .u32 h.dst, .int .u16 h.sp, .int .u16 h.dp, .int .u8 h.pr]] W' (fun x w' => x = .returned (.tuple #[.agg (matchC rx cx.dflt h), .agg #[.int .i64 s0, .int .i64 s1, .int .i64 s2, .int .i64 s3, .int .i64 s4]]) ∧ Below W'.heap.size W' w') ∧
    Calls Try.prog 14 #[.pointer (some ⟨Ex, 0, none⟩)] W' (fun x w' => x = .returned (.agg #[.int .i64 t0, .int .i64 t1, .int .i64 t2, .int .i64 t3]) ∧ Below W'.heap.size W' w') := by
  obtain ⟨tv, lv, k, hN⟩ := hx
  obtain ⟨bv, nv, en, ns, l0, h1, h2, h3, h4, h5, h6, h7⟩ := k.eng
  obtain ⟨f1, f2, f3, f4, f5, f6, f7⟩ := Cfg.facts k.cok
  have hlen := k.len
  have hbs : ∀ x ∈ boxesOf rx, x.ck = 0 := fun x hx => by
    unfold boxesOf at hx
    obtain ⟨r, hr, rfl⟩ := List.mem_map.1 hx
    exact (rulBox_good r (k.ok r hr).1 (k.ok r hr).2).ck
  obtain ⟨e, m, p1, p2, p3, p4, p5, p6⟩ := h4.path hbs h (whole_has h hh)
  have hfind : m.find? (hitR rx h) = (List.range rx.length).find? (hitR rx h) := by
    rw [hitR_box rx k.ok h, p4, h3, inside_find (boxesOf rx) hbs Bx.whole whole_good.ck h (whole_has h hh)]
  have hmem : ∀ j ∈ m, j < rx.length := fun j hj => by
    have := p6 j hj
    rw [h3] at this
    exact List.mem_range.1 (insideI_sub _ _ _ j this)
  have hml : m.length ≤ rx.length := by
    have := insideI_len (boxesOf rx) Bx.whole (List.range rx.length)
    rw [List.length_range, ← h3] at this
    omega
  refine ⟨((e + 1 : Nat) : Int), (rulesN rx h m : Int), (e : Int), 0, 0, (ns.length : Int), (en : Int), 0, 0, fun W' S ho hd => ?_⟩
  have hE : ¬ S Ex := fun hs => (hd Ex (Blk.lt h1) hs).1 ((hN Ex).2 (.inl rfl))
  have hL : OwnR W' 0 lv rx := row_only k.lst ho (fun j hj hs => (hd j (k.lst.lt j hj).2 hs).1 ((hN j).2 (.inr (.inr (.inr hj)))))
  have hD : OwnD W' 0 nv ns := row_only h2 ho (fun j hj hs => by
    obtain ⟨cs, ty, g1, _, g3, _⟩ := (hd j (h2.lt j hj).2 hs).2
    exact row_ne h2 g1 g3 (by rw [hj]))
  have hP : Path W' ns h 0 0 e m := p1.only ho (fun k hk hs => (hd k hk hs).2)
  refine ⟨?_, stats_walk Ex cx _ lv bv nv en ns W' (Blk.only h1 ho hE) hD (by omega)⟩
  rw [← ver_range rx cx.dflt h m hfind]
  exact ask_path Ex cx rx _ lv bv nv en ns h e m W' hh k.ok hmem (by omega) (by omega) (Blk.only h1 ho hE) hL hD hP
theorem EngP.apart {Ex Tx bx : Nat} {cx : Cfg} {rx : List Rul} {Nx : Nat → Prop} {Ey Ty b2 : Nat} {cy : Cfg} {ry : List Rul} {Ny : Nat → Prop} {W W' : World} (hx : EngP Ex Tx bx cx W Nx rx) (hy : EngP Ey Ty b2 cy W Ny ry) (hd : ∀ k, Nx k → ¬ Ny k) (ho : Only W W' Ny) : EngP Ex Tx bx cx W' Nx rx :=
  hx.alien ho (fun k _ hk => ⟨fun h => hd k h hk, hy.wide k hk⟩)
/-- two engines that know nothing of one another -/
structure ApartH (Px Py : World → (Nat → Prop) → List Rul → Prop) : Prop where
  x : ∀ {W W' Nx Ny rx ry}, Px W Nx rx → Py W Ny ry → (∀ k, Nx k → ¬ Ny k) → Only W W' Ny → Px W' Nx rx
  y : ∀ {W W' Nx Ny rx ry}, Px W Nx rx → Py W Ny ry → (∀ k, Nx k → ¬ Ny k) → Only W W' Nx → Py W' Ny ry
theorem eng_apart (Ex Tx bx : Nat) (cx : Cfg) (Ey Ty b2 : Nat) (cy : Cfg) : ApartH (EngP Ex Tx bx cx) (EngP Ey Ty b2 cy) where
  x := fun hx hy hd ho => hx.apart hy hd ho
  y := fun hx hy hd ho => hy.apart hx (fun k h1 h2 => hd k h2 h1) ho
structure Two (Px Py : World → (Nat → Prop) → List Rul → Prop) (lo : Nat) (Nx Ny : Nat → Prop) (rx ry : List Rul) (W : World) : Prop where
  x : Px W Nx rx
  y : Py W Ny ry
  disj : ∀ k, Nx k → ¬ Ny k
  low : ∀ k, Nx k ∨ Ny k → lo ≤ k
section
variable {X Y : Value} {c c' : Cfg} {Px Py : World → (Nat → Prop) → List Rul → Prop} {room room' : List Rul → Int} {lo : Nat} {Nx Ny : Nat → Prop} {rx ry r' : List Rul} {W W' : World}
theorem Two.more (Kx : EngK X c Px room) (Ky : EngK Y c' Py room') (h : Two Px Py lo Nx Ny rx ry W) (hb : Below W.heap.size W W') : Two Px Py lo Nx Ny rx ry W' := ⟨Kx.below h.x hb, Ky.below h.y hb, h.disj, h.low⟩
theorem Two.chgX (Ky : EngK Y c' Py room') (A : ApartH Px Py) (h : Two Px Py lo Nx Ny rx ry W) (hlo : lo ≤ W.heap.size) (hc : Chg Px W Nx r' W') : ∃ Nx', Two Px Py lo Nx' Ny r' ry W' ∧ Below lo W W' ∧ Only W W' Nx ∧ ∀ k, Nx' k → Nx k ∨ W.heap.size ≤ k := by
  obtain ⟨ho, N', h1, h2⟩ := hc
  refine ⟨N', ⟨h1, A.y h.x h.y h.disj ho, fun k hk hy => ?_, fun k hk => ?_⟩, ho.below lo hlo (fun k hk => h.low k (.inl hk)), ho, h2⟩
  · rcases h2 k hk with h3 | h3
    · exact h.disj k h3 hy
    · have := Ky.lt h.y k hy; omega
  · rcases hk with hk | hk
    · rcases h2 k hk with h3 | h3
      · exact h.low k (.inl h3)
      · omega
    · exact h.low k (.inr hk)
theorem Two.chgY (Kx : EngK X c Px room) (A : ApartH Px Py) (h : Two Px Py lo Nx Ny rx ry W) (hlo : lo ≤ W.heap.size) (hc : Chg Py W Ny r' W') : ∃ Ny', Two Px Py lo Nx Ny' rx r' W' ∧ Below lo W W' ∧ Only W W' Ny ∧ ∀ k, Ny' k → Ny k ∨ W.heap.size ≤ k := by
  obtain ⟨ho, N', h1, h2⟩ := hc
  refine ⟨N', ⟨A.x h.x h.y h.disj ho, h1, fun k hk hy => ?_, fun k hk => ?_⟩, ho.below lo hlo (fun k hk => h.low k (.inr hk)), ho, h2⟩
  · rcases h2 k hy with h3 | h3
    · exact h.disj k hk h3
    · have := Kx.lt h.x k hk; omega
  · rcases hk with hk | hk
    · exact h.low k (.inl hk)
    · rcases h2 k hk with h3 | h3
      · exact h.low k (.inr h3)
      · omega
end
end Go.Proofs.Ytljliopmphaoeaa
