/- An engine as its users see it. -/
import Derived.Test.YtljliopmphaoeaaA4
import Derived.Test.YtljliopmphaoeaaL2
namespace Go.Proofs.Ytljliopmphaoeaa
open Go Go.RowKit Go.Proofs.Ytljliopmphaoeaa.Q
theorem LowAt.keepV {W W' : World} {v : Value} {f : Hdr → Bool} (hk : ∀ k u T, (∀ b, u ≠ .bool b) → Blk W k #[u] T → Blk W' k #[u] T) (h : LowAt W v f) : LowAt W' v f := by
  have h1 : ∀ {a : Nat} {fn : FuncId}, One W a (.func (.func fn) #[] #[]) → One W' a (.func (.func fn) #[] #[]) := fun ⟨T, k1, k2⟩ => ⟨T, hk _ _ _ (fun b e => by cases e) k1, k2⟩
  have hr : ∀ {fn g : FuncId} {ik : IntKind} {n : Int} {T : TypeId}, LowR W v fn g (.int ik n) T → LowR W' v fn g (.int ik n) T := fun ⟨O, M, k1, k2, k3⟩ => ⟨O, M, k1, h1 k2, hk _ _ _ (fun b e => by cases e) k3⟩
  rcases h with ⟨m, k1, k2⟩ | ⟨m, k1, k2⟩ | ⟨m, k1, k2⟩ | ⟨m, k1, k2⟩ | ⟨b, M, k1, k2, k3, k4⟩
  · exact .inl ⟨m, hr k1, k2⟩
  · exact .inr (.inl ⟨m, hr k1, k2⟩)
  · exact .inr (.inr (.inl ⟨m, hr k1, k2⟩))
  · exact .inr (.inr (.inr (.inl ⟨m, hr k1, k2⟩)))
  · exact .inr (.inr (.inr (.inr ⟨b, M, k1, k2, hk _ _ _ (fun b e => by cases e) k3, k4⟩)))
/-- a block that is none of a tree's: not one cell, or a Boolean -/
def Wide (W : World) (j : Nat) : Prop := ∃ cs ty, Blk W j cs ty ∧ (cs.size ≠ 1 ∨ ∃ b, cs = #[.bool b]) ∧ ty ≠ 90 ∧ ty ≠ 3
theorem wide_one {W W' : World} {S : Nat → Prop} (ho : Only W W' S) (hS : ∀ j, j < W.heap.size → S j → Wide W j) (k : Nat) (u : Value) (T : TypeId) (hu : ∀ b, u ≠ .bool b) (hk : Blk W k #[u] T) : Blk W' k #[u] T := hk.only ho fun hs => by
  obtain ⟨cs, ty, g1, g2, _, _⟩ := hS k hk.lt hs
  rcases g2 with g2 | ⟨b, rfl⟩
  · exact ne_size hk g1 (fun e => g2 (by rw [← e]; rfl)) rfl
  · unfold Blk at hk g1
    rw [hk] at g1
    injection g1 with g1
    injection g1 with g1
    exact hu b (by simpa using g1)
theorem wide_row {W W' : World} {S : Nat → Prop} (ho : Only W W' S) (hS : ∀ j, j < W.heap.size → S j → Wide W j) (v : Value) (l : List Nat) (hv : OwnN W 0 v l) : OwnN W' 0 v l := row_only hv ho fun k hk hs => by
  obtain ⟨cs, ty, g1, _, _, g4⟩ := hS k (hv.lt k hk).2 hs
  exact row_ne hv g1 g4 (by rw [hk])
theorem Tree.only {W : World} {ns : List Nd} {bs : List Bx} {binth D i : Nat} {b : Bx} {l : List Nat} {d : Nat} (h : Tree W ns bs binth D i b l d) {W' : World} {S : Nat → Prop} (ho : Only W W' S)
    (hS : ∀ j, j < W.heap.size → S j → Wide W j) : Tree W' ns bs binth D i b l d := by
  induction h with
  | leaf i b l d nd h1' h2' h3 h4 h5 => exact .leaf i b l d nd h1' h2' (wide_row ho hS _ _ h3) h4 h5
  | cut i b l d nd f x y h1' h2' h3 h4 h6 t1 t2 ih1 ih2 => exact .cut i b l d nd f x y h1' (h2'.keepV (wide_one ho hS)) h3 h4 h6 ih1 ih2
theorem Path.only {W W' : World} {ns : List Nd} {h : Hdr} {i d e : Nat} {m : List Nat} {S : Nat → Prop} (ho : Only W W' S) (hS : ∀ j, j < W.heap.size → S j → Wide W j) (k : Path W ns h i d e m) : Path W' ns h i d e m := by
  induction k with
  | leaf i d nd m h1 h2 h3 => exact .leaf i d nd m h1 h2 (wide_row ho hS _ _ h3)
  | go i d e nd m f h1 h2 t ih => exact .go i d e nd m f h1 (h2.keepV (wide_one ho hS)) ih
/-- an engine stays, where only others' blocks of wide cells are written -/
theorem EngI.only {W W' : World} {S : Nat → Prop} {E T base : Nat} {c : Cfg} {tv lv : Value} {rs : List Rul} (k : EngI W E T base c tv lv rs) (ho : Only W W' S)
    (hS : ∀ j, j < W.heap.size → S j → j ≠ E ∧ j ≠ T ∧ tv.ownBlock ≠ some j ∧ lv.ownBlock ≠ some j ∧ Wide W j) : EngI W' E T base c tv lv rs := by
  obtain ⟨bv, nv, en, ns, l0, h1, h2, h3, h4, h5⟩ := k.eng
  have hE : ¬ S E := fun h => (hS E (Blk.lt h1) h).1 rfl
  have hT : ¬ S T := fun h => (hS T (Blk.lt k.tab) h).2.1 rfl
  exact ⟨⟨bv, nv, en, ns, l0, Blk.only h1 ho hE, row_only h2 ho (fun j hj hs => by
      obtain ⟨_, _, _, _, cs, ty, g1, _, g3, _⟩ := hS j (h2.lt j hj).2 hs
      exact row_ne h2 g1 g3 (by rw [hj])), h3, h4.only ho (fun j hj hs => (hS j hj hs).2.2.2.2), h5⟩,
    Blk.only k.tab ho hT, row_only k.own ho (fun j hj hs => (hS j (k.own.lt j hj).2 hs).2.2.1 hj), row_only k.lst ho (fun j hj hs => (hS j (k.lst.lt j hj).2 hs).2.2.2.1 hj), k.ok, k.len, k.cok, k.hT, k.hE, Nat.le_trans k.hb ho.size⟩
/-- what the refusals are, and the list as it is then -/
def insE (c : Cfg) (room : List Rul → Int) (rs : List Rul) (p : Int) (r : Rul) : Int := if insI c rs p r ≠ 0 then insI c rs p r else room (rs.take p.toNat ++ r :: rs.drop p.toNat)
def insL (c : Cfg) (room : List Rul → Int) (rs : List Rul) (p : Int) (r : Rul) : List Rul := if insE c room rs p r = 0 then rs.take p.toNat ++ r :: rs.drop p.toNat else rs
def delE (rs : List Rul) (id : Int) : Int := if findI rs id = -1 then 114 else 0
def delL (rs : List Rul) (id : Int) : List Rul := if findI rs id = -1 then rs else rs.take (findI rs id).toNat ++ rs.drop ((findI rs id).toNat + 1)
def setE (c : Cfg) (room : List Rul → Int) (ls : List Rul) : Int := if setI c ls ≠ 0 then setI c ls else room ls
/-- what a change of an engine leaves: its rules, and what it may have changed -/
def Chg (P : World → (Nat → Prop) → List Rul → Prop) (w : World) (N : Nat → Prop) (rs : List Rul) (w' : World) : Prop := Only w w' N ∧ ∃ N', P w' N' rs ∧ ∀ k, N' k → N k ∨ w.heap.size ≤ k
/-- an engine: P: it has these rules, and no other blocks than N are its own -/
structure EngK (X : Value) (c : Cfg) (P : World → (Nat → Prop) → List Rul → Prop) (room : List Rul → Int) : Prop where
  lt : ∀ {W N rs}, P W N rs → ∀ k, N k → k < W.heap.size
  ok : ∀ {W N rs}, P W N rs → (∀ r ∈ rs, r.Wf) ∧ rs.length ≤ 64
  below : ∀ {W W' N rs}, P W N rs → Below W.heap.size W W' → P W' N rs
  frame : ∀ {W W' N S rs}, P W N rs → Only W W' S → (∀ k, k < W.heap.size → S k → ¬ N k ∧ ∃ cs, Blk W k cs 60 ∧ cs.size ≠ 1) → P W' N rs
  ins : ∀ {w N rs}, P w N rs → ∀ (p : Int) (r : Rul), r.Wf → Calls Try.prog 17 #[X, .int .i64 p, .agg #[.int .i64 r.id, .int .u32 r.src.a, .int .i64 r.src.n, .int .u32 r.dst.a, .int .i64 r.dst.n, .int .u16 r.sp.lo, .int .u16 r.sp.hi, .int .u16 r.dp.lo, .int .u16 r.dp.hi, .int .u8 r.pr.v, .int .u8 r.pr.c, .int .i64 r.act]] w fun e w' => e = .returned (.int .i64 (insE c room rs p r)) ∧ Chg P w N (insL c room rs p r) w'
  del : ∀ {w N rs}, P w N rs → ∀ id : Int, Calls Try.prog 18 #[X, .int .i64 id] w fun e w' => e = .returned (.int .i64 (delE rs id)) ∧ Chg P w N (delL rs id) w'
  set : ∀ {w N rs}, P w N rs → ∀ (ls : List Rul) (A : Option Addr) (cap : Nat), (∀ r ∈ ls, r.Wf) → ls.length ≤ 100000 → ls.length ≤ cap → RulsAt w A ls → (0 < ls.length → ∀ a, A = some a → ¬ N a.block) →
    Calls Try.prog 15 #[X, .slice A ls.length cap] w fun e w' => e = .returned (.int .i64 (setE c room ls)) ∧ Chg P w N (if setE c room ls = 0 then ls else rs) w'
  ask : ∀ {W N rs}, P W N rs → ∀ h : Hdr, h.Wf → ∃ s0 s1 s2 s3 s4 t0 t1 t2 t3 : Int,
    (∀ W', Below W.heap.size W W' → Calls Try.prog 12 #[X, .agg #[.int .u32 h.src, .int .u32 h.dst, .int .u16 h.sp, .int .u16 h.dp, .int .u8 h.pr]] W' fun x w' => x = .returned (.tuple #[.agg (matchC rs c.dflt h), .agg #[.int .i64 s0, .int .i64 s1, .int .i64 s2, .int .i64 s3, .int .i64 s4]]) ∧ Below W'.heap.size W' w') ∧
    (∀ W', Below W.heap.size W W' → Calls Try.prog 14 #[X] W' fun x w' => x = .returned (.agg #[.int .i64 t0, .int .i64 t1, .int .i64 t2, .int .i64 t3]) ∧ Below W'.heap.size W' w') ∧
    (∀ W' A cap, RulsAt W' A rs → Calls Try.prog 13 #[.agg #[.int .i64 c.max, .int .i64 c.dflt, .int .i64 c.prune, .int .i64 c.grid, .int .i64 c.tuple, .int .i64 c.binth, .int .i64 c.depth], .slice A rs.length cap, .agg #[.int .u32 h.src, .int .u32 h.dst, .int .u16 h.sp, .int .u16 h.dp, .int .u8 h.pr], .agg (matchC rs c.dflt h), .agg #[.int .i64 s0, .int .i64 s1, .int .i64 s2, .int .i64 s3, .int .i64 s4], .agg #[.int .i64 t0, .int .i64 t1, .int .i64 t2, .int .i64 t3]] W' fun x w' => x = .returned (.bool true) ∧ Below W'.heap.size W' w')
def EngN (E T : Nat) (tv lv : Value) (j : Nat) : Prop := j = E ∨ j = T ∨ tv.ownBlock = some j ∨ lv.ownBlock = some j
def EngP (E T base : Nat) (c : Cfg) (W : World) (N : Nat → Prop) (rs : List Rul) : Prop := ∃ tv lv, EngI W E T base c tv lv rs ∧ ∀ j, N j ↔ EngN E T tv lv j
theorem ChgOut.chg {w w' : World} {E T base : Nat} {c : Cfg} {tv lv : Value} {rs' : List Rul} {N : Nat → Prop} (h : ChgOut w E T base c tv rs' w') (hN : ∀ j, N j ↔ EngN E T tv lv j) : Chg (EngP E T base c) w N rs' w' := by
  obtain ⟨tv', lv', h1, h2, h3, h4⟩ := h
  refine ⟨h4.mono (fun j _ hj => (hN j).2 ?_), EngN E T tv' lv', ⟨tv', lv', h1, fun j => Iff.rfl⟩, fun j hj => ?_⟩
  · rcases hj with hj | hj | hj
    · exact .inl hj
    · exact .inr (.inl hj)
    · exact .inr (.inr (.inl hj))
  · rcases hj with hj | hj | hj | hj
    · exact .inl ((hN j).2 (.inl hj))
    · exact .inl ((hN j).2 (.inr (.inl hj)))
    · rcases h2 with h2 | ⟨g, h2, h5⟩
      · exact .inl ((hN j).2 (.inr (.inr (.inl (by rw [← h2]; exact hj)))))
      · rw [h5] at hj; injection hj with hj; exact .inr (by omega)
    · exact .inr (h3 j hj)
theorem EngP.stay {w w' : World} {E T base : Nat} {c : Cfg} {rs : List Rul} {N : Nat → Prop} (h : EngP E T base c w N rs) (hb : Below w.heap.size w w') : Chg (EngP E T base c) w N rs w' := by
  obtain ⟨tv, lv, h1, h2⟩ := h
  exact ⟨below_only hb _, N, ⟨tv, lv, h1.below hb, h2⟩, fun j hj => .inl hj⟩
theorem EngP.lt {W : World} {N : Nat → Prop} {E T base : Nat} {c : Cfg} {rs : List Rul} (h : EngP E T base c W N rs) (k : Nat) (hk : N k) : k < W.heap.size := by
  obtain ⟨tv, lv, h, hN⟩ := h
  rcases (hN k).1 hk with rfl | rfl | hk | hk
  · exact h.cell7.2
  · exact Blk.lt h.tab
  · exact (h.own.lt k hk).2
  · exact (h.lst.lt k hk).2
theorem step_eq (n r d : Nat) : stepC (n + 1) r d = #[.int .i64 ((n : Int) + 1), .int .i64 (r : Int), .int .i64 (d : Int), .int .i64 0, .int .i64 0] := by unfold stepC; push_cast; rfl
theorem match_shape (rs : List Rul) (d : Int) (h : Hdr) : ∃ hit id act, matchC rs d h = #[.bool hit, .int .i64 id, .int .i64 act] ∧ (hit = true → (rs.find? (fun r => r.hit h)).isSome = true) := by
  unfold matchC
  cases rs.find? (fun r => r.hit h) with
  | none => exact ⟨_, _, _, rfl, fun h => by cases h⟩
  | some r => exact ⟨_, _, _, rfl, fun _ => rfl⟩
theorem eng_kind (E T base : Nat) (c : Cfg) : EngK (.pointer (some ⟨E, 0, none⟩)) c (EngP E T base c) (fun _ => 0) where
  lt := EngP.lt
  ok := fun ⟨tv, lv, h, _⟩ => by
    obtain ⟨f1, f2, f3, f4, f5, f6, f7⟩ := Cfg.facts h.cok
    have := h.len
    exact ⟨fun r hr => (h.ok r hr).1, by omega⟩
  below := fun ⟨tv, lv, h, hN⟩ hb => ⟨tv, lv, h.below hb, hN⟩
  frame := fun ⟨tv, lv, h, hN⟩ ho hS => ⟨tv, lv, h.only ho (fun j hj hs => by
    obtain ⟨h1, cs, h2, h3⟩ := hS j hj hs
    exact ⟨fun e => h1 ((hN j).2 (.inl e)), fun e => h1 ((hN j).2 (.inr (.inl e))), fun e => h1 ((hN j).2 (.inr (.inr (.inl e)))), fun e => h1 ((hN j).2 (.inr (.inr (.inr e)))), cs, _, h2, .inl h3, by decide, by decide⟩), hN⟩
  ins := fun {w N rs} hP p r hr => by
    obtain ⟨tv, lv, h, hN⟩ := hP
    by_cases hn : insI c rs p r = 0
    · obtain ⟨_, ⟨k, rfl, hk⟩, _⟩ := insI_ok hn
      have e1 : insE c (fun _ => 0) rs k r = 0 := by unfold insE; simp [hn]
      rw [insL, if_pos e1, e1]
      exact (engInsert_ok h k r hr hn).mono fun e w' ⟨a, b⟩ => ⟨a, b.chg hN⟩
    · have e1 : insE c (fun _ => 0) rs p r = insI c rs p r := by unfold insE; rw [if_pos hn]
      rw [insL, e1, if_neg hn]
      exact (engInsert_no h p r hr hn).mono fun e w' ⟨a, b⟩ => ⟨a, EngP.stay ⟨tv, lv, h, hN⟩ b⟩
  del := fun {w N rs} hP id => by
    obtain ⟨tv, lv, h, hN⟩ := hP
    rcases findI_cases rs id with hf | ⟨k, hk, hf⟩
    · rw [delL, delE, if_pos hf, if_pos hf]
      exact (engDelete_no h id hf).mono fun e w' ⟨a, b⟩ => ⟨a, EngP.stay ⟨tv, lv, h, hN⟩ (b ▸ Below.refl _ _)⟩
    · have hf' : findI rs id ≠ -1 := by omega
      rw [delL, delE, if_neg hf', if_neg hf', hf, Int.toNat_natCast]
      exact (engDelete_ok h id k hk hf).mono fun e w' ⟨a, b⟩ => ⟨a, b.chg hN⟩
  set := fun {w N rs} hP ls A cap hw hl hcap hR hA => by
    obtain ⟨tv, lv, h, hN⟩ := hP
    have hA' : 0 < ls.length → ∀ a, A = some a → a.block ≠ T := fun h0 a ha e => hA h0 a ha ((hN _).2 (.inr (.inl e)))
    by_cases hn : setI c ls = 0
    · have e1 : setE c (fun _ => 0) ls = 0 := by unfold setE; simp [hn]
      rw [e1, if_pos rfl]
      exact (engSet_ok h ls A cap hw hl hcap hR hA' hn).mono fun e w' ⟨a, b⟩ => ⟨a, b.chg hN⟩
    · have e1 : setE c (fun _ => 0) ls = setI c ls := by unfold setE; rw [if_pos hn]
      rw [e1, if_neg hn]
      exact (engSet_no h ls A cap hw hl hcap hR hA' hn).mono fun e w' ⟨a, b⟩ => ⟨a, EngP.stay ⟨tv, lv, h, hN⟩ b⟩
  ask := fun {W N rs} hP h hh => by
    obtain ⟨tv, lv, k, hN⟩ := hP
    obtain ⟨f1, f2, f3, f4, f5, f6, f7⟩ := Cfg.facts k.cok
    have hlen := k.len
    obtain ⟨e, n, q1, q2, q3, q4, KA⟩ := k.asks h hh
    obtain ⟨M, en, s1, s2, s3, KS⟩ := k.stats
    obtain ⟨hit, id, act, hm, hp⟩ := match_shape rs c.dflt h
    refine ⟨(e : Int) + 1, (n : Int), (e : Int), 0, 0, (M : Int), (en : Int), 0, 0, fun W' hb => ?_, KS, fun W' A cap hR => ?_⟩
    · have := KA W' hb
      rwa [step_eq] at this
    · rw [hm]
      exact refFits_any c k.cok A cap rs.length h hit id act e n M en W' q1 q2 q3 (fun hx => q4 (hp hx)) s1 s2 s3 (by omega)
/-- a new engine -/
theorem eng_new (c : Cfg) (w : World) (h : c.ck = 0) : Calls Try.prog 10 #[.agg #[.int .i64 c.max, .int .i64 c.dflt, .int .i64 c.prune, .int .i64 c.grid, .int .i64 c.tuple, .int .i64 c.binth, .int .i64 c.depth]] w fun e w' => ∃ E T base, e = .returned (.tuple #[.pointer (some ⟨E, 0, none⟩), .int .i64 0]) ∧ (∃ N, EngP E T base c w' N [] ∧ ∀ k, N k → w.heap.size ≤ k) ∧ Below w.heap.size w w' :=
  (cutsNew_ok c w h).mono fun e w' ⟨E, T, base, lv, h1, h2, h3, h4, h5, h6⟩ => ⟨E, T, base, h1, ⟨EngN E T (.slice none 0 0) lv, ⟨_, lv, h2, fun j => Iff.rfl⟩, fun k hk => by
    rcases hk with rfl | rfl | hk | hk
    · exact h3
    · exact h4
    · cases hk
    · exact h5 k hk⟩, h6⟩
end Go.Proofs.Ytljliopmphaoeaa
