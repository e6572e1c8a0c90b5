/- Next at any state; New, Back; what a scanner still has to give. -/
import Derived.Test.YtghlfpeifdikkaaDoorLexNx
namespace Go.Proofs.YtghlfpeifdikkaaDoor
open Go.RowKit Go.Proofs.YtghlfpeifdikkaaDoor.Lex

theorem next_any (w : World) (B : Nat) (s : ByteArray) (c : Sc) (v : Value) (hs : s.size ≤ 140737488351232) (hS : ScAt w B s c v) (hl : c.told.length ≤ 1000000) :
    Calls Tryd.prog 19 #[.pointer (some ⟨B, 0, none⟩)] w (NextOut w B s c v) := by
  by_cases hn : c.nxt < c.told.length
  · exact next_again w B s c v hS hn hl
  · have he : c.nxt = c.told.length := by have := hS.le; omega
    rcases hr : rd s c.st with ⟨o, t⟩
    cases o with
    | none => exact next_none w B s c v t hs hS he hr
    | some k => exact next_some w B s c v t k hs hS he hr hl
/-- a scanner's first state -/
def sc0 (s : ByteArray) : Sc := ⟨Lex.start s, [], 0⟩
theorem start_good (s : ByteArray) : Good s (Lex.start s) := by
  unfold Lex.start
  split
  · exact ⟨.inl (by simp), by simp, by simp⟩
  · exact measure_good (by simp []) (by simp) ⟨fun _ => rfl, by simp, by simp, by simp, by simp⟩
def NewOut (s : ByteArray) (w : World) (e : Ending) (w' : World) : Prop := e = .returned (.pointer (some ⟨w.heap.size, 0, none⟩)) ∧ ScAt w' w.heap.size s (sc0 s) (.slice none 0 0) ∧ Below w.heap.size w w'
set_option maxHeartbeats 1000000 in
theorem new_any (w : World) (s : ByteArray) (hs : s.size ≤ 140737488351232) : Calls Tryd.prog 15 #[.string s] w (NewOut s w) := by
  by_cases hbig : 65536 < s.size
  · have HG := Sd.mk (start_good s)
    have hst : Lex.start s = ⟨0, 1, 0, ⟨2, 0, 0⟩⟩ := by unfold Lex.start; rw [if_pos hbig]
    have HST := Sd.mk hst
    clear hst
    go_enter Tryd.func15, Tryd.ntmps15
    go_wp2
    go_ret
    refine ⟨rfl, ⟨⟨.pointer (some ⟨w.heap.size + 1, 0, none⟩), ?_⟩, World.ownsRow_nil _ _ _ _, by simp [sc0], HG.out⟩, ((Below.refl _ _).alloc (Nat.le_refl _) _).alloc (by simp) _⟩
    show Scan _ _ s (Lex.start s) _ _ _
    rw [HST.out]
    have := two_new w w.heap.size rfl (scanC s ⟨0, 1, 0, ⟨2, 0, 0⟩⟩ (.slice none 0 0) 0 (.pointer (some ⟨w.heap.size + 1, 0, none⟩))) #[.int .i64 2, .int .i64 0, .int .i64 0] 62 59
    exact ⟨this.1, .inr ⟨by simp, w.heap.size + 1, rfl, by omega, this.2⟩⟩
  · have HG := Sd.mk (start_good s)
    have hst : Lex.start s = Lex.measure s ⟨0, 1, 0, ok⟩ := by unfold Lex.start; rw [if_neg hbig]
    have HST := Sd.mk hst
    have HM := Sd.mk (measure_any (w.alloc (.cells (scanC s ⟨0, 1, 0, ok⟩ (.slice none 0 0) 0 (.pointer none)) 62)) w.heap.size s ⟨0, 1, 0, ok⟩ (.slice none 0 0) 0 hs ⟨Blk.new _ _ _, .inl ⟨rfl, rfl⟩⟩ (by simp))
    clear hst
    go_enter Tryd.func15, Tryd.ntmps15
    go_wp2_with fail
    refine HM.out.mono ?_
    rintro e w1 ⟨rfl, ⟨p, hs1⟩, ho1⟩
    have HS1 := Sd.mk hs1
    have HO1 := Sd.mk ho1
    clear hs1 ho1
    go_wp2
    go_ret
    refine ⟨rfl, ⟨⟨p, ?_⟩, World.ownsRow_nil _ _ _ _, by simp [sc0], HG.out⟩, ((Below.refl _ _).alloc (Nat.le_refl _) _).trans (HO1.out.below w.heap.size (by simp) (fun k h => by omega))⟩
    show Scan _ _ s (Lex.start s) _ _ _
    rw [HST.out]; exact HS1.out
/-- Back -/
def BackOut (w : World) (B : Nat) (s : ByteArray) (c : Sc) (v : Value) (n : Int) (e : Ending) (w' : World) : Prop :=
  if n < 0 ∨ (c.nxt : Int) < n then e = .returned (.int .i64 1) ∧ w = w' else e = .returned (.int .i64 0) ∧ ScAt w' B s { c with nxt := c.nxt - n.toNat } v ∧ Only w w' (· = B)
set_option maxHeartbeats 1000000 in
theorem back_any (w : World) (B : Nat) (s : ByteArray) (c : Sc) (v : Value) (n : Int) (hS : ScAt w B s c v) (hl : c.told.length ≤ 1000000) :
    Calls Tryd.prog 16 #[.pointer (some ⟨B, 0, none⟩), .int .i64 n] w (BackOut w B s c v n) := by
  obtain ⟨p, hsc⟩ := hS.sc
  have hblk := hsc.blk
  have hle := hS.le
  unfold scanC at hblk
  have HS := Sd.mk hS
  have c5 := hblk.cell (i := 5) rfl
  have cf := hblk.frozen
  have cl := hblk.lt
  clear hS hsc hblk
  by_cases h0 : n < 0
  · have HP := Sd.mk (show n < 0 ∨ (c.nxt : Int) < n from .inl h0)
    go_enter Tryd.func16, Tryd.ntmps16
    go_wp2
    go_ret
    unfold BackOut; rw [if_pos HP.out]; exact ⟨rfl, rfl⟩
  · have h0' : 0 ≤ n := by omega
    by_cases h1 : (c.nxt : Int) < n
    · have HP := Sd.mk (show n < 0 ∨ (c.nxt : Int) < n from .inr h1)
      go_enter Tryd.func16, Tryd.ntmps16
      go_wp2
      go_ret
      unfold BackOut; rw [if_pos HP.out]; exact ⟨rfl, rfl⟩
    · have h1' : n ≤ (c.nxt : Int) := by omega
      go_enter Tryd.func16, Tryd.ntmps16
      go_wp2
      go_ret
      unfold BackOut
      rw [if_neg (by omega)]
      have e : (c.nxt : Int) - n = ((c.nxt - n.toNat : Nat) : Int) := by omega
      rw [e]
      exact ⟨rfl, HS.out.next (by omega), (Only.refl w (· = B)).setCell ⟨B, 5, none⟩ _ (fun _ => rfl)⟩

/-- what is still to come agrees with the document's answer -/
def Due (s : ByteArray) (c : Sc) : Prop := all s = (c.told ++ (out s c.st).1, (out s c.st).2)
theorem due0 (s : ByteArray) : Due s (sc0 s) := by unfold Due sc0; rw [out_all]; simp
theorem rd_cases {s : ByteArray} {t : St} (h : Good s t) : (∃ k t', rd s t = (some k, t') ∧ out s t = (k :: (out s t').1, (out s t').2)) ∨ (∃ t', rd s t = (none, t') ∧ out s t = ([], t'.wrong) ∧ out s t' = out s t) := by
  rcases h.ok with hw | hok
  · exact .inr ⟨t, by unfold rd; rw [if_pos hw], by unfold out; rw [if_pos hw], rfl⟩
  · rcases rd_out s t hok with ⟨k, h1, h2, _⟩ | ⟨h1, h2, h3, _⟩
    · exact .inl ⟨k, (rd s t).2, by rw [← h1], h2⟩
    · exact .inr ⟨(rd s t).2, by rw [← h1], h2, h3⟩
theorem due_next {s : ByteArray} {c : Sc} (h : Due s c) (hg : Good s c.st) : Due s (nx s c).2 := by
  unfold nx
  split
  · exact h
  · unfold Due at h ⊢
    rcases rd_cases hg with ⟨k, t', h1, h2⟩ | ⟨t', h1, h2, h3⟩
    · rw [h1]; simp only; rw [h, h2]; simp
    · rw [h1]; simp only; rw [h, h3]
theorem due_len {s : ByteArray} {c : Sc} (h : Due s c) : c.told.length ≤ 65537 := by
  have := all_len s
  rw [h] at this
  simp at this
  omega
/-- a new token: all that was told, and one more; or there is none, and the answer is told whole -/
theorem due_cases {s : ByteArray} {c : Sc} (h : Due s c) (hg : Good s c.st) (hn : c.nxt = c.told.length) :
    (∃ k, (nx s c).1 = some k ∧ (nx s c).2.told = c.told ++ [k] ∧ (nx s c).2.nxt = c.nxt + 1) ∨ ((nx s c).1 = none ∧ (nx s c).2.told = c.told ∧ (nx s c).2.nxt = c.nxt ∧ all s = (c.told, (nx s c).2.st.wrong)) := by
  unfold nx
  rw [if_neg (by omega)]
  rcases rd_cases hg with ⟨k, t', h1, h2⟩ | ⟨t', h1, h2, h3⟩
  · rw [h1]; exact .inl ⟨k, rfl, rfl, rfl⟩
  · rw [h1]
    refine .inr ⟨rfl, rfl, rfl, ?_⟩
    rw [h, h2]; simp
end Go.Proofs.YtghlfpeifdikkaaDoor
