/- All. -/
import Derived.Test.YtghlfpeifdikkaaDoorLexG
namespace Go.Proofs.YtghlfpeifdikkaaDoor
open Go.RowKit Go.Proofs.YtghlfpeifdikkaaDoor.Lex

def LexAllOut (s : ByteArray) (w : World) (e : Ending) (w' : World) : Prop :=
  ∃ lv ev, e = .returned (.tuple #[lv, ev]) ∧ ErrV (all s).2 w.heap.size w' ev ∧ Own w' w.heap.size lv (if (all s).2.code = 0 then (all s).1 else []) ∧ Below w.heap.size w w'
/-- between two rounds: the scanner, what it told, and the list made of it -/
structure AllAt (s : ByteArray) (w : World) (B : Nat) (c : Sc) (v lv : Value) (wr : World) : Prop where
  sc : ScAt wr B s c v
  due : Due s c
  full : c.nxt = c.told.length
  own : Own wr (w.heap.size + 1) lv c.told
  ap : ∀ g, v.ownBlock = some g → lv.ownBlock ≠ some g
  B : B = w.heap.size
  bel : Below w.heap.size w wr
/-- behind Next -/
theorem AllAt.step {s : ByteArray} {w : World} {B : Nat} {c : Sc} {v lv : Value} {wr w1 : World} {v' : Value} (h : AllAt s w B c v lv wr) (hm : Moved wr.heap.size v v') (ho : Only wr w1 (fun k => k = B ∨ v.ownBlock = some k)) :
    Own w1 (w.heap.size + 1) lv c.told ∧ (∀ g, v'.ownBlock = some g → lv.ownBlock ≠ some g) ∧ Below w.heap.size w w1 := by
  have hB := h.B
  have hl := h.own.lt
  have hv := h.sc.own.lt
  refine ⟨ownsRow_only h.own ho (fun g e h1 => ?_), fun g e h1 => ?_, h.bel.trans (ho.below w.heap.size h.bel.size (fun k hk => ?_))⟩
  · rcases h1 with h1 | h1
    · have := (hl g e).1; omega
    · exact h.ap g h1 e
  · rcases hm with h2 | ⟨g2, h2, h3⟩
    · exact h.ap g (h2.symm.trans e) h1
    · have : g2 = g := by rw [h3] at e; simpa using e
      have := (hl g h1).2
      omega
  · rcases hk with hk | hk
    · omega
    · have := (hv k hk).1; omega
theorem ErrV.alloc {x : Wr} {L : Nat} {w : World} {v : Value} (h : ErrV x L w v) (o : Obj) : ErrV x L (w.alloc o) v := by
  rcases h with h | ⟨h1, F, h2, h3, h4⟩
  · exact .inl h
  · exact .inr ⟨h1, F, h2, h3, h4.alloc o⟩
/-- a list apart from the scanner grows -/
theorem ScAt.grown {w w' : World} {B L : Nat} {s : ByteArray} {c : Sc} {v lv : Value} {l : List Tk} (h : ScAt w B s c v) (hl : Own w L lv l) (hap : ∀ g, v.ownBlock = some g → lv.ownBlock ≠ some g) (hg : w.grownBy w' lv.ownBlock) : ScAt w' B s c v := by
  obtain ⟨p, hp⟩ := h.sc
  have ne : ∀ {A : Nat} {cs : Array Value} {T : TypeId}, Blk w A cs T → T ≠ 38 → some A ≠ lv.ownBlock := by
    intro A cs T hA hT e
    obtain ⟨cur, hc⟩ := own_blk hl e.symm
    exact (hA.ne hc hT) rfl
  refine ⟨⟨p, hp.blk.kept hg (ne hp.blk (by decide)), ?_⟩, ?_, h.le, h.good⟩
  · rcases hp.wr with h1 | ⟨h1, F, h2, h3, h4⟩
    · exact .inl h1
    · exact .inr ⟨h1, F, h2, h3, h4.kept hg (ne h4 (by decide))⟩
  · refine World.ownsRow.kept h.own hg ?_
    cases hv : v.ownBlock with
    | none => exact .inl rfl
    | some g => exact .inr (fun e => hap g hv e.symm)
theorem AllAt.more {s : ByteArray} {w : World} {B : Nat} {c c' : Sc} {v v' lv lv' : Value} {wr W w2 : World} {k : Tk} (h : AllAt s w B c v lv wr) (hsc : ScAt W B s c' v') (hdue : Due s c') (hfull : c'.nxt = c'.told.length) (ht : c'.told = c.told ++ [k]) (hlv : Own W (w.heap.size + 1) lv c.told) (hap : ∀ g, v'.ownBlock = some g → lv.ownBlock ≠ some g) (hbel : Below w.heap.size w W)
    (hown : w2.ownsRow (w.heap.size + 1) 38 5 lv' (c.told.length + 1) (tksC c.told ++ tkC k)) (hg : W.grownBy w2 lv.ownBlock) (hat : lv'.ownBlock = lv.ownBlock ∨ lv'.ownBlock = some W.heap.size) : AllAt s w B c' v' lv' w2 := by
  have hB := h.B
  refine ⟨hsc.grown hlv hap hg, hdue, hfull, ?_, ?_, hB, hbel.grown hg hbel.size (fun k e => by have := (hlv.lt k e).1; omega)⟩
  · rw [ht]; unfold Own; rw [tksC_snoc, List.length_append]; exact hown
  · intro g e e2
    rcases hat with h1 | h1
    · exact hap g e (h1.symm.trans e2)
    · have := (hsc.own.lt g e).2
      have : W.heap.size = g := by rw [h1] at e2; simpa using e2
      omega
def sliceLen : Value → Nat | .slice _ n _ => n | _ => 0
set_option maxHeartbeats 4000000 in
set_option maxRecDepth 100000 in
theorem lexAll_any (s : ByteArray) (w : World) (hs : s.size ≤ 140737488351232) :
    Calls Tryd.prog 10 #[.string s] w (LexAllOut s w) := by
  obtain ⟨i0, hi, hz0, hz1, hz2⟩ := info_parts infoTok
  have HI := Sd.mk (And.intro hi (And.intro hz0 (And.intro hz1 hz2)))
  clear hi hz0 hz1 hz2
  go_enter Tryd.func10, Tryd.ntmps10
  go_wp2_with fail
  refine (new_any w s hs).mono ?_
  rintro e w0 ⟨rfl, hs0, hb0⟩
  have HS0 := Sd.mk hs0
  have HB0 := Sd.mk hb0
  clear hs0 hb0
  go_wp2
  go_loopw [5] (fun lv wr => Sd (∃ c v, AllAt s w w.heap.size c v lv wr)) (fun lv _ => 70000 - sliceLen lv)
  case atStart => exact ⟨sc0 s, .slice none 0 0, HS0.out, due0 s, rfl, World.ownsRow_nil _ _ _ _, (fun g e => by cases e), rfl, HB0.out⟩
  case round =>
    obtain ⟨c, v, hA⟩ := hrel.out
    have hlen := due_len hA.due
    obtain ⟨A, cap, rfl⟩ := own_slice hA.own
    have HA := Sd.mk hA
    have HNx := Sd.mk (next_any wr w.heap.size s c v hs hA.sc (by omega))
    have HD := Sd.mk (due_cases hA.due hA.sc.good hA.full)
    have HD2 := Sd.mk (due_next hA.due hA.sc.good)
    clear hA hrel
    go_wp2_with fail
    refine HNx.out.mono ?_
    rintro e w1 ⟨v', k, b, ev, rfl, h1, h2, h3, hs1, hm, ho⟩
    obtain ⟨q1, q2, q3⟩ := HA.out.step hm ho
    cases b
    · obtain ⟨rfl, hev⟩ := h3 rfl
      rcases HD.out with ⟨k', d1, _⟩ | ⟨_, d2, d3, d4⟩
      · rw [d1] at h1; cases h1
      · have hEV : ErrV (all s).2 w.heap.size w1 ev := by
          rw [d4]
          rcases hev with h | ⟨e1, F, e2, e3, e4⟩
          · exact .inl h
          · exact .inr ⟨e1, F, e2, Nat.le_trans HA.out.bel.size e3, e4⟩
        have HQ := Sd.mk (And.intro hEV (And.intro q1 q3))
        have HALL := Sd.mk d4
        clear q1 q2 q3 h1 h2 h3 hs1 hm ho hev d2 d3 d4
        unfold tkV noTk
        rcases hEV with ⟨hc, rfl⟩ | ⟨hc, F, rfl, hF, hFb⟩
        · have HC := Sd.mk hc
          clear hc
          go_wp2
          go_ret2
          refine ⟨.slice A c.told.length cap, .nilIface, rfl, .inl ⟨HC.out, rfl⟩, ?_, HQ.out.2.2.alloc HQ.out.2.2.size _⟩
          rw [if_pos HC.out, HALL.out]
          exact ownsRow_mono (World.ownsRow.alloc HQ.out.2.1 _) (Nat.le_succ _)
        · have HC := Sd.mk hc
          clear hc hFb
          go_wp2
          go_ret2
          refine ⟨.slice none 0 0, _, rfl, HQ.out.1.alloc _, ?_, HQ.out.2.2.alloc HQ.out.2.2.size _⟩
          rw [if_neg HC.out]
          exact World.ownsRow_nil _ _ _ _
    · obtain rfl := h2 rfl
      rcases HD.out with ⟨k', d1, d2, d3⟩ | ⟨d1, _⟩
      · obtain rfl : k' = k := by rw [d1] at h1; simpa using h1
        have HQ := Sd.mk (And.intro q1 (And.intro q2 (And.intro q3 hs1)))
        have HD3 := Sd.mk (And.intro d2 d3)
        clear q1 q2 q3 h1 h2 h3 hs1 hm ho d1 d2 d3 HD
        unfold tkV
        have hsz := HQ.out.2.2.1.size
        go_wp2_with (at_builtin; refine wpList_append_own_at _ rfl _ _ 22 rfl (w.heap.size + 1) 38 i0 _ 5 48 Tryd.underlying22 HI.out.1 HI.out.2.1 HI.out.2.2.1 HI.out.2.2.2 rfl (by decide) (.slice A c.told.length cap) c.told.length (tksC c.told) rfl ((World.ownsRow.alloc HQ.out.1 _).alloc _) ⟨w1.heap.size + 1, 0, none⟩ 1 1 (tkC k') rfl rfl (cells_new _ (tkC k') _ (by simp)) (tk_one _) (by unfold maxLen; omega) (by omega) (by simp; omega) ?_; intro lv' w2 hown2 hg2 _ hat2; have HA2 := Sd.mk (HA.out.more ((HQ.out.2.2.2.alloc _).alloc _) HD2.out (by rw [HD3.out.1, HD3.out.2, HA.out.full, List.length_append]; rfl) HD3.out.1 (World.ownsRow.alloc (World.ownsRow.alloc HQ.out.1 _) _) HQ.out.2.1 ((HQ.out.2.2.1.alloc HQ.out.2.2.1.size _).alloc (by have := HQ.out.2.2.1.size; simp; omega) _) hown2 hg2 hat2); obtain ⟨g2, cap2, rfl⟩ := ownsRow_succ hown2; clear hown2 hg2 hat2)
        go_roundw
        case rel => exact ⟨_, _, HA2.out⟩
        case measure => simp only [sliceLen]; omega
      · rw [d1] at h1; cases h1
end Go.Proofs.YtghlfpeifdikkaaDoor
