/- Next reads a new token. -/
import Derived.Test.YtghlfpeifdikkaaDoorLexO
namespace Go.Proofs.YtghlfpeifdikkaaDoor
open Go.RowKit Go.Proofs.YtghlfpeifdikkaaDoor.Lex

/-- behind the append: the list told, in a world that is the one before it but for that list -/
structure Told (w : World) (B : Nat) (s : ByteArray) (t : St) (n : Nat) (v : Value) (p1 : Value) (R : Nat) (l : List Tk) (v' : Value) (w2 : World) : Prop where
  sc : Scan w2 B s t v n p1
  own : Own w2 (B + 1) v' l
  res : Blk w2 R zero5 38
  mov : Moved w.heap.size v v'
  only : Only w w2 (fun k => v.ownBlock = some k)
theorem own_blk {w : World} {base : Nat} {e : TypeId} {size : Nat} {v : Value} {n : Nat} {xs : List Value} (h : w.ownsRow base e size v n xs) {g : Nat} (hg : v.ownBlock = some g) : ∃ cur, Blk w g cur e := by
  rcases h.2 with ⟨rfl, _⟩ | ⟨g', cap, cur, rfl, _, h3, _⟩
  · cases hg
  · obtain rfl : g' = g := by simpa [Value.ownBlock] using hg
    exact ⟨cur, h3⟩
theorem next_told {W1 : World} {B : Nat} {s : ByteArray} {t : St} {n R : Nat} {v p1 v' : Value} {w2 : World} {l : List Tk} {k : Tk} {o : Obj} (hS : Scan W1 B s t v n p1) (hR : Blk W1 R zero5 38) (hO : W1.ownsRow (B + 1) 38 5 v l.length (tksC l)) (hRg : ∀ g, v.ownBlock = some g → g ≠ R)
    (hown : w2.ownsRow (B + 1) 38 5 v' (l.length + 1) (tksC l ++ tkC k)) (hg : (W1.alloc o).drew.grownBy w2 v.ownBlock) (hat : v'.ownBlock = v.ownBlock ∨ v'.ownBlock = some (W1.alloc o).drew.heap.size) : Told W1 B s t n v p1 R (l ++ [k]) v' w2 := by
  have ne : ∀ {A : Nat} {cs : Array Value} {T : TypeId}, Blk W1 A cs T → T ≠ 38 → some A ≠ v.ownBlock := by
    intro A cs T hA hT e
    obtain ⟨cur, hc⟩ := own_blk hO e.symm
    exact (hA.ne hc hT) rfl
  have hon : Only W1 w2 (fun k => v.ownBlock = some k) := (((Only.refl W1 _).alloc o).drew).grown hg (fun k e _ => e)
  refine ⟨⟨(hS.blk.alloc o).drew.kept hg (ne hS.blk (by decide)), ?_⟩, ?_, (hR.alloc o).drew.kept hg (fun e => hRg _ e.symm rfl), ?_, hon⟩
  · rcases hS.wr with h1 | ⟨h1, F, h2, h3, h4⟩
    · exact .inl h1
    · exact .inr ⟨h1, F, h2, h3, (h4.alloc o).drew.kept hg (ne h4 (by decide))⟩
  · unfold Own; rw [tksC_snoc, List.length_append]; exact hown
  · rcases hat with h | h
    · exact .inl h
    · exact .inr ⟨_, by simp, h⟩
theorem next_facts {w : World} {B : Nat} {s : ByteArray} {t : St} {n R g m cap : Nat} {v p1 : Value} {l : List Tk} {w2 : World} (h : Told w B s t n v p1 R l (.slice (some ⟨g, 0, none⟩) m cap) w2) :
    w2.cell? ⟨B, 4, none⟩ = some v ∧ w2.cell? ⟨B, 5, none⟩ = some (.int .i64 n) ∧ (∀ i, w2.frozen? ⟨B, i, none⟩ = false) ∧ B < w2.heap.size ∧ B < g := by
  have hb := h.sc.blk
  unfold scanC at hb
  exact ⟨hb.cell rfl, hb.cell rfl, hb.frozen, hb.lt, by have := (h.own.lt g rfl).1; omega⟩
theorem next_last {w : World} {B : Nat} {s : ByteArray} {t : St} {n R g m cap : Nat} {v p1 : Value} {l : List Tk} {k : Tk} {w2 : World} (h : Told w B s t n v p1 R (l ++ [k]) (.slice (some ⟨g, 0, none⟩) m cap) w2) (hn : n = l.length) : TokAt w2 g (n * 5) k := by
  rcases own_cells h.own with ⟨h1, _⟩ | ⟨g', cap', h1, _, _, _, _, h2⟩
  · cases h1
  · obtain rfl : g' = g := by simp at h1; exact h1.1.symm
    have := h2 n (by simp; omega)
    subst hn
    simpa using this
theorem told_out {w : World} {B : Nat} {s : ByteArray} {t : St} {n R : Nat} {v v' p1 : Value} {l : List Tk} {w2 : World} (h : Told w B s t n v p1 R l v' w2) (hRg : ∀ g, v.ownBlock = some g → g ≠ R) (hR : R < w.heap.size) (hBR : B < R) (hl : n + 1 ≤ l.length) (hg : Good s t) (k i : Int) (x : ByteArray) (u d : Int) :
    ScAt (World.drew (putTk ((w2.setCell ⟨B, 4, none⟩ v').setCell ⟨B, 5, none⟩ (.int .i64 ((n : Int) + 1))) R k i x u d)) B s (Sc.mk t l (n + 1)) v' := by
  have hne : ∀ g, v'.ownBlock = some g → g ≠ R := by
    intro g e
    rcases h.mov with h1 | ⟨g2, h2, h3⟩
    · exact hRg g (h1.symm.trans e)
    · have : g2 = g := by rw [h3] at e; simpa using e
      omega
  have hsc : Scan ((w2.setCell ⟨B, 4, none⟩ v').setCell ⟨B, 5, none⟩ (.int .i64 ((n : Int) + 1))) B s t v' (n + 1) p1 :=
    ⟨(h.sc.blk.set 4 _).set 5 _, h.sc.wr.only (((Only.refl w2 (· = B)).setCell ⟨B, 4, none⟩ _ (fun _ => rfl)).setCell ⟨B, 5, none⟩ _ (fun _ => rfl))⟩
  have hown := ownsRow_setCell_below (ownsRow_setCell_below h.own (a := ⟨B, 4, none⟩) (by simp) v') (a := ⟨B, 5, none⟩) (by simp) (.int .i64 ((n : Int) + 1))
  have hR2 := (h.res.other (a := ⟨B, 4, none⟩) v' (by simp only; omega)).other (a := ⟨B, 5, none⟩) (.int .i64 ((n : Int) + 1)) (by simp only; omega)
  have hsc2 := hsc.putTk hR2 k i x u d
  refine ⟨⟨p1, hsc2.blk.drew, hsc2.wr.drew⟩, ?_, hl, hg⟩
  exact World.ownsRow.drew (ownsRow_only hown ((Only.refl _ (· = R)).putTk R (fun _ => rfl) k i x u d) (fun g e => hne g e))
set_option maxHeartbeats 4000000 in
set_option maxRecDepth 100000 in
theorem next_some (w : World) (B : Nat) (s : ByteArray) (c : Sc) (v : Value) (t : St) (k : Tk) (hs : s.size ≤ 140737488351232) (hS : ScAt w B s c v) (hn : c.nxt = c.told.length) (hr : rd s c.st = (some k, t)) (hl : c.told.length ≤ 1000000) :
    Calls Tryd.prog 19 #[.pointer (some ⟨B, 0, none⟩)] w (NextOut w B s c v) := by
  obtain ⟨p, hsc⟩ := hS.sc
  have hblk := hsc.blk
  obtain ⟨A, cap, rfl⟩ := own_slice hS.own
  have HO := Sd.mk hS.own
  unfold scanC at hblk
  have HS := Sd.mk hS
  have HSC := Sd.mk hsc
  have c4 := hblk.cell (i := 4) rfl
  have c5 := hblk.cell (i := 5) rfl
  have cl := hblk.lt
  have en : ((c.nxt : Int) == c.told.length) = true := by simp; omega
  have hnl : c.nxt ≤ 1000000 := by omega
  have hnb : (c.nxt : Int) < c.told.length + 1 := by omega
  have hnb2 : c.nxt < c.told.length + 1 := by omega
  have HN := Sd.mk hn
  have HR := Sd.mk hr
  have HRd := Sd.mk (read_any ((w.alloc (.cells zero5 38)).drew) B s c.st (.slice A c.told.length cap) c.nxt p hs (hsc.alloc _).drew hS.good.ok (by have := hS.good.ln; have := hS.good.bs; omega))
  obtain ⟨i0, hi, hz0, hz1, hz2⟩ := info_parts infoTok
  have HI := Sd.mk (And.intro hi (And.intro hz0 (And.intro hz1 hz2)))
  clear hS hsc hblk hn hr hi hz0 hz1 hz2
  go_enter Tryd.func19, Tryd.ntmps19
  go_wp2
  go_region
  go_wp2_with fail
  refine HRd.out.mono ?_
  rintro e w1 ⟨⟨k1, b, rfl, hk⟩, ⟨p1, hs1⟩, ho1⟩
  rw [HR.out] at hk hs1
  cases b
  · cases hk
  · obtain rfl : k = k1 := by simpa using hk
    have hR1 := (Blk.new w zero5 38).drew.only ho1 (by omega)
    have HR1 := Sd.mk (hR1.alloc (.cells #[.int .i64 k.kind, .string k.text, .int .u32 k.value, .int .i64 k.line, .int .i64 k.col] 38))
    have HS1 := Sd.mk (hs1.alloc (.cells #[.int .i64 k.kind, .string k.text, .int .u32 k.value, .int .i64 k.line, .int .i64 k.col] 38))
    have ho2 := (((((Only.refl w (· = B)).alloc _).drew).trans ho1 (fun _ _ h => h)).alloc (.cells #[.int .i64 k.kind, .string k.text, .int .u32 k.value, .int .i64 k.line, .int .i64 k.col] 38))
    have HO1 := Sd.mk ho2
    have HT1 := Sd.mk (Blk.new w1 #[.int .i64 k.kind, .string k.text, .int .u32 k.value, .int .i64 k.line, .int .i64 k.col] 38)
    have HW1 := Sd.mk (ownsRow_only HO.out ho2 (fun g e => by have := (HO.out.lt g e).1; omega))
    have hsz := HO1.out.size
    have hRg : ∀ g, (Value.slice A c.told.length cap).ownBlock = some g → g ≠ w.heap.size := fun g e => by have := (HO.out.lt g e).2; omega
    have HRg := Sd.mk hRg
    clear hRg
    clear hk hs1 ho1 ho2 hR1 c4 c5 en HRd
    unfold tkV
    go_wp2
    generalize w1.alloc (.cells #[.int .i64 k.kind, .string k.text, .int .u32 k.value, .int .i64 k.line, .int .i64 k.col] 38) = W1 at *
    have hblk := HS1.out.blk
    unfold scanC at hblk
    have c4 := hblk.cell (i := 4) rfl
    have c5 := hblk.cell (i := 5) rfl
    have cf := hblk.frozen
    have cl1 := hblk.lt
    have t0 := HT1.out.cell (i := 0) rfl
    have t1 := HT1.out.cell (i := 1) rfl
    have t2 := HT1.out.cell (i := 2) rfl
    have t3 := HT1.out.cell (i := 3) rfl
    have t4 := HT1.out.cell (i := 4) rfl
    clear hblk
    go_region_law ((refine step_append_own rfl _ _ 22 rfl (B + 1) 38 i0 _ 5 48 Tryd.underlying22 HI.out.1 HI.out.2.1 HI.out.2.2.1 HI.out.2.2.2 rfl (by decide) _ c.told.length (tksC c.told) rfl (by exact (World.ownsRow.alloc HW1.out _).drew) ⟨W1.heap.size, 0, none⟩ 1 1 (tkC k) rfl rfl (by exact fun j u h => cells_new W1 (tkC k) _ rfl j u h) (tk_one _) (by unfold maxLen; omega) (by omega) (by simp; omega) ?_; intro v' w2 hown2 hg2 hat2; obtain ⟨g', cap', rfl⟩ := ownsRow_succ hown2; have HN2 := Sd.mk (next_told HS1.out HR1.out HW1.out HRg.out hown2 hg2 hat2); obtain ⟨c4, c5, cf, cl2, gB⟩ := next_facts HN2.out; obtain ⟨a0, a1, a2, a3, a4⟩ := next_last HN2.out HN.out; clear hown2 hg2 hat2))
    all_goals
      have hR2 := HN2.out.res
      unfold zero5 at hR2
      have b0 := hR2.cell (i := 0) rfl
      have b1 := hR2.cell (i := 1) rfl
      have b2 := hR2.cell (i := 2) rfl
      have b3 := hR2.cell (i := 3) rfl
      have b4 := hR2.cell (i := 4) rfl
      have bf := hR2.frozen
      have bl := hR2.lt
      clear hR2
      go_wp2
      go_region
      go_wp2
      have hE : nx s c = (some k, ⟨t, c.told ++ [k], c.nxt + 1⟩) := by unfold nx; rw [if_neg (by have := HN.out; omega), HR.out]
      have hg := rd_good HS.out.good
      rw [HR.out] at hg
      refine bodyPost_ret (v := .tuple #[tkV k, .bool true, .nilIface]) ?_ rfl ⟨.slice (some ⟨g', 0, none⟩) (c.told.length + 1) cap', k, true, .nilIface, rfl, by rw [hE]; rfl, fun _ => rfl, (fun h => by cases h), ?_, ?_, ?_⟩
      rotate_left
      · rw [hE]; exact told_out HN2.out HRg.out HR1.out.lt cl (by have := HN.out; simp; omega) hg _ _ _ _ _
      · rcases HN2.out.mov with h | ⟨g, h1, h2⟩
        · exact .inl h
        · exact .inr ⟨g, by omega, h2⟩
      · exact (((((HO1.out.mono (fun _ _ h => .inl h)).trans HN2.out.only (fun _ _ h => .inr h)).setCell ⟨B, 4, none⟩ _ (fun _ => .inl rfl)).setCell ⟨B, 5, none⟩ _ (fun _ => .inl rfl)).putTk w.heap.size (fun h => absurd h (Nat.lt_irrefl _)) _ _ _ _ _).drew
      · simp [results, Tryd.results19, go_sem, tkV, b0, b1, b2, b3, b4]
end Go.Proofs.YtghlfpeifdikkaaDoor
