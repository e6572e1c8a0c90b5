/- A scanner's call against the whole list: quintetlaw09's next and pick. -/
import Derived.Test.YtghlfpeifdikkaaDoorLexK
import Derived.Test.YtghlfpeifdikkaaDoorLexL1
namespace Go.Proofs.YtghlfpeifdikkaaDoor
open Go.RowKit Go.Proofs.YtghlfpeifdikkaaDoor.Lex

theorem nx_spec {s : ByteArray} {c : Sc} (h : Due s c) (hg : Good s c.st) (hle : c.nxt ≤ c.told.length) :
    (c.nxt < (all s).1.length ∧ (nx s c).1 = (all s).1[c.nxt]? ∧ (nx s c).2.nxt = c.nxt + 1) ∨ (c.nxt = (all s).1.length ∧ (nx s c).1 = none ∧ (nx s c).2.nxt = c.nxt ∧ (nx s c).2.st.wrong = (all s).2) := by
  rcases Nat.lt_or_ge c.nxt c.told.length with hlt | hge
  · have hT : (all s).1 = c.told ++ (out s c.st).1 := by unfold Due at h; rw [h]
    refine .inl ⟨by rw [hT, List.length_append]; omega, ?_, ?_⟩
    · unfold nx; rw [if_pos hlt, hT]; simp only; rw [List.getElem?_append_left hlt]
    · unfold nx; rw [if_pos hlt]
  · have he : c.nxt = c.told.length := by omega
    rcases due_cases h hg he with ⟨k, h1, h2, h3⟩ | ⟨h1, h2, h3, h4⟩
    · have hD := due_next h hg
      unfold Due at hD
      rw [h2] at hD
      have hT : (all s).1 = c.told ++ [k] ++ (out s (nx s c).2.st).1 := by rw [hD]
      refine .inl ⟨by rw [hT]; simp; omega, ?_, h3⟩
      rw [h1, hT, he, List.append_assoc, List.getElem?_append_right (Nat.le_refl _)]
      simp
    · exact .inr ⟨by rw [h4]; exact he, h1, h3, by rw [h4]⟩
theorem ScAt.only {w w1 : World} {S : Nat → Prop} {B : Nat} {s : ByteArray} {c : Sc} {v : Value} (h : ScAt w B s c v) (ho : Only w w1 S) (hB : ¬ S B) (hv : ∀ g, v.ownBlock = some g → ¬ S g) (hF : ∀ F cs, Blk w F cs 59 → ¬ S F) : ScAt w1 B s c v := by
  obtain ⟨p, hp⟩ := h.sc
  refine ⟨⟨p, hp.blk.only ho hB, ?_⟩, ownsRow_only h.own ho hv, h.le, h.good⟩
  rcases hp.wr with h1 | ⟨h1, F, h2, h3, h4⟩
  · exact .inl h1
  · exact .inr ⟨h1, F, h2, h3, h4.only ho (hF F _ h4)⟩
theorem ScAt.move {w w1 : World} {B : Nat} {s : ByteArray} {c : Sc} {v : Value} (h : ScAt w B s c v) (hb : Below w.heap.size w w1) : ScAt w1 B s c v :=
  h.only (below_only hb (fun _ => False)) (fun h => h) (fun _ _ h => h) (fun _ _ _ h => h)
theorem Moved.mono {L L' : Nat} {v v' : Value} (h : Moved L v v') (hL : L' ≤ L) : Moved L' v v' := by
  rcases h with h | ⟨g, h1, h2⟩
  · exact .inl h
  · exact .inr ⟨g, Nat.le_trans hL h1, h2⟩
theorem below_onlyX {w w1 : World} {X : Nat} (h : Below X w w1) : Only w w1 (X ≤ ·) := ⟨h.os, h.tape, h.output, h.size, fun k _ hn => h.block k (by omega)⟩
/-- the caller's fault lies behind all that is the scanner's -/
def NextNone (w : World) (B : Nat) (s : ByteArray) (c : Sc) (v : Value) (e : Ending) (w' : World) : Prop :=
  ∃ (ev : Value) (X : Nat), e = .returned (.tuple #[tkV noTk, .bool false, ev]) ∧ ErrV (nx s c).2.st.wrong X w' ev ∧ w.heap.size ≤ X ∧ X ≤ w'.heap.size ∧ (∃ p, Scan w' B s (nx s c).2.st v (nx s c).2.nxt p ∧ ∀ F, p = .pointer (some ⟨F, 0, none⟩) → F < X) ∧ ScAt w' B s (nx s c).2 v ∧ Only w w' (· = B)
theorem ScAt.turn {w w' : World} {B X : Nat} {s : ByteArray} {c : Sc} {v p : Value} (h : ScAt w B s c v) (hp : Scan w B s c.st v c.nxt p) (hX : ∀ F, p = .pointer (some ⟨F, 0, none⟩) → F < X) (hb : Below X w w') (hk : ∀ B cs T, T ≠ 59 → Blk w B cs T → Blk w' B cs T) : ScAt w' B s c v := by
  refine ⟨⟨p, hk _ _ _ (by decide) hp.blk, ?_⟩, own_move h.own (fun g cs _ hg => hk _ _ _ (by decide) hg), h.le, h.good⟩
  rcases hp.wr with h1 | ⟨h1, F, h2, h3, h4⟩
  · exact .inl h1
  · exact .inr ⟨h1, F, h2, h3, h4.below hb (hX F h2)⟩
set_option maxHeartbeats 2000000 in
set_option maxRecDepth 100000 in
theorem next_fault (w : World) (B : Nat) (s : ByteArray) (c : Sc) (v : Value) (t : St) (hs : s.size ≤ 140737488351232) (hS : ScAt w B s c v) (hn : c.nxt = c.told.length) (hr : rd s c.st = (none, t)) :
    Calls Tryd.prog 19 #[.pointer (some ⟨B, 0, none⟩)] w (NextNone w B s c v) := by
  obtain ⟨p, hsc⟩ := hS.sc
  have hblk := hsc.blk
  obtain ⟨A, cap, rfl⟩ := own_slice hS.own
  have HO := Sd.mk hS.own
  unfold scanC at hblk
  have HS := Sd.mk hS
  have c4 := hblk.cell (i := 4) rfl
  have c5 := hblk.cell (i := 5) rfl
  have cl := hblk.lt
  have en : ((c.nxt : Int) == c.told.length) = true := by simp; omega
  have HN := Sd.mk hn
  have HR := Sd.mk hr
  have HRd := Sd.mk (read_any ((w.alloc (.cells zero5 38)).drew) B s c.st (.slice A c.told.length cap) c.nxt p hs (hsc.alloc _).drew hS.good.ok (by have := hS.good.ln; have := hS.good.bs; omega))
  clear hS hsc hblk hn hr
  go_enter Tryd.func19, Tryd.ntmps19
  go_wp2
  go_region
  go_wp2_with fail
  refine HRd.out.mono ?_
  rintro e w1 ⟨⟨k, b, rfl, hk⟩, ⟨p1, hs1⟩, ho1⟩
  rw [HR.out] at hk hs1
  cases b
  rotate_left
  · cases hk
  · have hR1 := (Blk.new w zero5 38).drew.only ho1 (by omega)
    have HR1 := Sd.mk hR1
    have HS1 := Sd.mk hs1
    have HO1 := Sd.mk ((((Only.refl w (· = B)).alloc _).drew).trans ho1 (fun _ _ h => h))
    have HF := Sd.mk (fault_any (w1.alloc (.cells #[.int .i64 k.kind, .string k.text, .int .u32 k.value, .int .i64 k.line, .int .i64 k.col] 38)) B s t _ _ p1 (hs1.alloc _))
    clear hk hs1 ho1 hR1 c4 c5
    unfold tkV
    go_wp2_with fail
    refine HF.out.mono ?_
    rintro e w2 ⟨ev, rfl, hev, hb2⟩
    have hR2 := (HR1.out.alloc (.cells #[.int .i64 k.kind, .string k.text, .int .u32 k.value, .int .i64 k.line, .int .i64 k.col] 38)).below hb2 (HR1.out.alloc _).lt
    unfold zero5 at hR2
    have b0 := hR2.cell (i := 0) rfl
    have b1 := hR2.cell (i := 1) rfl
    have b2 := hR2.cell (i := 2) rfl
    have b3 := hR2.cell (i := 3) rfl
    have b4 := hR2.cell (i := 4) rfl
    have bf := hR2.frozen
    have bl := hR2.lt
    have HEV := Sd.mk hev
    have HB2 := Sd.mk hb2
    have HR2 := Sd.mk hR2
    clear hev hb2 hR2
    go_wp2
    have hE : nx s c = (none, { c with st := t }) := by unfold nx; rw [if_neg (by have := HN.out; omega), HR.out]
    have hon : Only w (putTk w2 w.heap.size 0 0 ⟨#[]⟩ 0 0) (· = B) := ((HO1.out.alloc _).trans (below_only HB2.out (fun _ => False)) (fun _ _ h => h.elim)).putTk w.heap.size (fun h => absurd h (Nat.lt_irrefl _)) 0 0 ⟨#[]⟩ 0 0
    have hon2 : Only w2 (putTk w2 w.heap.size 0 0 ⟨#[]⟩ 0 0) (fun k => w.heap.size = k) := (Only.refl w2 _).putTk w.heap.size (fun _ => rfl) 0 0 ⟨#[]⟩ 0 0
    have hg := rd_good HS.out.good
    rw [HR.out] at hg
    have hsc := ((HS1.out.alloc (.cells #[.int .i64 k.kind, .string k.text, .int .u32 k.value, .int .i64 k.line, .int .i64 k.col] 38)).below HB2.out).putTk HR2.out 0 0 ⟨#[]⟩ 0 0
    refine bodyPost_ret (v := .tuple #[tkV noTk, .bool false, ev]) ?_ rfl ⟨ev, (w1.alloc (.cells #[.int .i64 k.kind, .string k.text, .int .u32 k.value, .int .i64 k.line, .int .i64 k.col] 38)).heap.size, rfl, ?_, ?_, ?_, ⟨p1, ?_, ?_⟩, ?_, hon⟩
    · simp [results, Tryd.results19, go_sem, tkV, noTk, b0, b1, b2, b3, b4]
    · rw [hE]; exact HEV.out.putTk (Nat.le_refl _) HR2.out _ _ _ _ _
    · exact Nat.le_trans HO1.out.size (by rw [World.size_alloc]; exact Nat.le_succ _)
    · exact Nat.le_trans HB2.out.size hon2.size
    · rw [hE]; exact hsc
    · intro F e
      rcases HS1.out.wr with ⟨_, h⟩ | ⟨_, F1, h2, _, h4⟩
      · rw [h] at e; cases e
      · rw [h2] at e
        have : F1 = F := by simpa using e
        have := h4.lt
        rw [World.size_alloc]; omega
    · rw [hE]
      exact ⟨⟨p1, hsc⟩, ownsRow_only HO.out hon (fun g e => by have := (HO.out.lt g e).1; omega), HS.out.le, hg⟩
/-- what a call leaves: the scanner moved on, the rest as it was -/
def LawNextOut (w : World) (B : Nat) (s : ByteArray) (c : Sc) (v : Value) (e : Ending) (w' : World) : Prop :=
  e = .returned (.bool true) ∧ ∃ v', ScAt w' B s (nx s c).2 v' ∧ Moved w.heap.size v v' ∧ Only w w' (fun k => k = B ∨ v.ownBlock = some k)
theorem own_apart {w : World} {L B : Nat} {s : ByteArray} {c : Sc} {v lv : Value} {l : List Tk} (hS : ScAt w B s c v) (hO : Own w L lv l) {g : Nat} (hg : lv.ownBlock = some g) : g ≠ B := by
  obtain ⟨p, hp⟩ := hS.sc
  obtain ⟨cur, hc⟩ := own_blk hO hg
  exact fun e => (hp.blk.ne (e ▸ hc) (by decide)) rfl
set_option maxHeartbeats 2000000 in
theorem lawNext_tok (s : ByteArray) (hs : s.size ≤ 140737488351232) (w : World) (B : Nat) (c : Sc) (v lv : Value) (L : Nat) (T : List Tk) (x : Wr) (hS : ScAt w B s c v) (hD : Due s c) (hO : Own w L lv T) (hap : ∀ g, v.ownBlock = some g → lv.ownBlock ≠ some g) (hlt : c.nxt < T.length) (hx : (nx s c).1 = T[c.nxt]?) :
    Calls Tryd.prog 18 #[.pointer (some ⟨B, 0, none⟩), lv, .int .i64 c.nxt, wrV x] w (LawNextOut w B s c v) := by
  have hlen := due_len hD
  have HNx := fun o : Obj => next_any (w.alloc o) B s c v hs (hS.alloc o) (by omega)
  have HNX := Sd.mk HNx
  have HX := Sd.mk hx
  have HS := Sd.mk hS
  have HO := Sd.mk hO
  have HAP := Sd.mk hap
  obtain ⟨A, cap, rfl⟩ := own_slice hO
  clear hS hD hO hap hx HNx hlen
  unfold wrV
  go_enter Tryd.func18, Tryd.ntmps18
  go_wp2_with fail
  refine (HNX.out _).mono ?_
  rintro e w1 ⟨v', k, b, ev, rfl, hk, hb1, _, hs1, hm, ho⟩
  rw [HX.out, List.getElem?_eq_getElem hlt] at hk
  cases b
  · cases hk
  · obtain rfl : T[c.nxt] = k := by simpa using hk
    obtain rfl := hb1 rfl
    have HS1 := Sd.mk hs1
    have HM := Sd.mk hm
    have HOn := Sd.mk ho
    have hown := ownsRow_only (ownsRow_below HO.out ((Below.refl _ _).alloc (Nat.le_refl w.heap.size) _) (fun g e => (HO.out.lt g e).2)) ho (fun g e h => h.elim (own_apart HS.out HO.out e) (fun h => HAP.out g h e))
    rcases own_cells hown with ⟨_, h⟩ | ⟨g, cap', hv, _, hg2, _, _, hcell⟩
    · rw [h] at hlt; simp at hlt
    · obtain rfl : A = some ⟨g, 0, none⟩ := by simp at hv; exact hv.1
      obtain ⟨a0, a1, a2, a3, a4⟩ := hcell c.nxt hlt
      have HA := Sd.mk hown
      clear hk hb1 hs1 hm ho hown hcell hv
      generalize T[c.nxt] = k at *
      unfold tkV
      go_wp2
      go_quiet (fail)
      go_wp2
      go_ret
      exact ⟨rfl, v', HS1.out.move (Below.drewN ((Below.refl _ _).alloc (Nat.le_refl _) _)), HM.out.mono (by simp), ((((Only.refl w _).alloc _).trans HOn.out (fun _ _ h => h)).alloc _).drewN _⟩
set_option maxHeartbeats 2000000 in
theorem lawNext_end (s : ByteArray) (hs : s.size ≤ 140737488351232) (w : World) (B : Nat) (c : Sc) (v lv : Value) (L : Nat) (T : List Tk) (x : Wr) (hS : ScAt w B s c v) (hO : Own w L lv T) (hE : ET w) (hEB : 0 < B) (t : St) (hn : c.nxt = c.told.length) (hr : rd s c.st = (none, t)) (hge : T.length ≤ c.nxt) (hx : (nx s c).2.st.wrong = x) :
    Calls Tryd.prog 18 #[.pointer (some ⟨B, 0, none⟩), lv, .int .i64 c.nxt, wrV x] w (LawNextOut w B s c v) := by
  have HNX := Sd.mk (fun o : Obj => next_fault (w.alloc o) B s c v t hs (hS.alloc o) hn hr)
  have HX := Sd.mk hx
  have HE := Sd.mk hE
  obtain ⟨A, cap, rfl⟩ := own_slice hO
  have hge2 : (T.length : Int) ≤ c.nxt := by omega
  obtain ⟨p0, hp0⟩ := hS.sc
  have cl := hp0.blk.lt
  clear hS hO hx hn hr hE hp0
  unfold wrV
  go_enter Tryd.func18, Tryd.ntmps18
  go_wp2_with fail
  refine (HNX.out _).mono ?_
  rintro e w1 ⟨ev, X, rfl, hev, hX1, hX2, ⟨p, hsc, hp⟩, hs1, ho⟩
  rw [HX.out] at hev
  have hE1 : ET w1 := (HE.out.move ((Below.refl _ _).alloc (Nat.le_refl w.heap.size) _)).only ho (by omega)
  have HW := Sd.mk ((Blk.new w #[.int .i64 x.code, .int .i64 x.line, .int .i64 x.col] 25).only ho (by omega))
  have hw1 : w1.heap.size ≤ w1.heap.size := Nat.le_refl _
  have HS1 := Sd.mk hs1
  have HSC := Sd.mk (And.intro hsc hp)
  have HO := Sd.mk ho
  have HEV := Sd.mk (hev.alloc (.cells zero5 38))
  have HE1 := Sd.mk hE1
  have hX3 := Nat.le_trans (Nat.le_of_eq rfl) hX1
  clear hs1 hsc hp ho hev hE1 HNX hw1
  unfold tkV noTk
  have hbw := (HW.out.alloc (.cells zero5 38))
  have q0 := hbw.cell (i := 0) rfl
  have q1 := hbw.cell (i := 1) rfl
  have q2 := hbw.cell (i := 2) rfl
  clear hbw
  unfold zero5 at q0 q1 q2
  go_wp2_with fail
  refine (keepIs_err x X _ ev HEV.out (HE1.out.move ((Below.refl _ _).alloc (Nat.le_refl _) _))).mono ?_
  rintro e w2 ⟨rfl, hb2⟩
  have hb12 : Below w1.heap.size w1 w2 := ((Below.refl _ _).alloc (Nat.le_refl _) _).trans (hb2.mono (by rw [World.size_alloc]; exact Nat.le_succ _))
  have HEV2 := Sd.mk (HEV.out.keep (fun F h => h.below hb2 h.lt))
  have hz2 := (Blk.new w1 zero5 38).below hb2 (Blk.new _ _ _).lt
  have HZ2 := Sd.mk hz2
  have HB12 := Sd.mk hb12
  have hs12 := hb12.size
  clear hb2 hb12 hz2 q0 q1 q2
  go_wp2_with fail
  refine (keepTurn_err x X w2 ev HEV2.out (HE1.out.move HB12.out) (by omega)).mono ?_
  rintro e w3 ⟨rfl, hb3, hk3⟩
  have hz3 := hk3 _ _ _ (by decide) HZ2.out
  unfold zero5 at hz3
  have z0 := hz3.cell (i := 0) rfl
  have z1 := hz3.cell (i := 1) rfl
  have z2 := hz3.cell (i := 2) rfl
  have z3 := hz3.cell (i := 3) rfl
  have z4 := hz3.cell (i := 4) rfl
  have HB3 := Sd.mk hb3
  have HK3 := Sd.mk hk3
  clear hb3 hk3 hz3
  go_wp2
  go_ret
  have hon : Only w w1 (· = B) := ((Only.refl w (· = B)).alloc _).trans HO.out (fun _ _ h => h)
  have hsz := hon.size
  refine ⟨rfl, v, (HS1.out.move HB12.out).turn (HSC.out.1.below HB12.out) HSC.out.2 HB3.out HK3.out, .inl rfl, ((hon.trans (below_only HB12.out (fun _ => False)) (fun _ _ h => h.elim)).trans (below_onlyX HB3.out) (fun b hb h => ?_)).mono (fun _ _ h => .inl h)⟩
  rw [World.size_alloc] at hX1
  omega
set_option maxHeartbeats 1000000 in
theorem pick_any (c : Int) (w : World) (hc : 0 < c) (hc2 : c ≤ 9223372036854775807) : Calls Tryd.prog 17 #[.int .i64 c, .int .i64 20] w fun e w' => e = .returned (.int .i64 (c % 20)) ∧ w = w' := by
  go_enter Tryd.func17, Tryd.ntmps17
  go_wp2
  go_ret
  exact ⟨rfl, rfl⟩
end Go.Proofs.YtghlfpeifdikkaaDoor
