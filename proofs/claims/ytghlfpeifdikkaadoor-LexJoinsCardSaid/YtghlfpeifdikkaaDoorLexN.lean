/- A scanner's fault; what holds of a scanner between its calls. -/
import Derived.Maps.AppendAt
import Derived.Deep.RegionLaw
import Derived.Test.YtghlfpeifdikkaaDoorLexRd
namespace Go.Proofs.YtghlfpeifdikkaaDoor
open Go.RowKit Go.Proofs.YtghlfpeifdikkaaDoor.Lex

/-- an error as the document tells it: none, or a Fault in new memory -/
def ErrV (x : Wr) (L : Nat) (w : World) (v : Value) : Prop :=
  (x.code = 0 ∧ v = .nilIface) ∨ (x.code ≠ 0 ∧ ∃ F, v = .iface 56 (.pointer (some ⟨F, 0, none⟩)) ∧ L ≤ F ∧ Blk w F #[.int .i64 x.code, .int .i64 x.line, .int .i64 x.col] 59)
def FaultOut (x : Wr) (w : World) (e : Ending) (w' : World) : Prop := ∃ v, e = .returned v ∧ ErrV x w.heap.size w' v ∧ Below w.heap.size w w'
set_option maxHeartbeats 1000000 in
theorem fault_any (w : World) (B : Nat) (s : ByteArray) (t : St) (told : Value) (n : Nat) (p : Value) (hS : Scan w B s t told n p) :
    Calls Tryd.prog 25 #[.pointer (some ⟨B, 0, none⟩)] w (FaultOut t.wrong w) := by
  have hblk := hS.blk
  unfold scanC at hblk
  have c6 := hblk.cell (i := 6) rfl
  have cl := hblk.lt
  rcases hS.wr with ⟨hw, hp⟩ | ⟨hw, F, hp, hBF, hF⟩
  · subst hp
    have HW := Sd.mk hw
    clear hw hS hblk
    go_enter Tryd.func25, Tryd.ntmps25
    go_wp2
    go_ret
    exact ⟨_, rfl, .inl ⟨HW.out, rfl⟩, Below.refl _ _⟩
  · subst hp
    have HW := Sd.mk hw
    have f0 := hF.cell (i := 0) rfl
    have f1 := hF.cell (i := 1) rfl
    have f2 := hF.cell (i := 2) rfl
    have fl := hF.lt
    clear hw hS hblk hF
    go_enter Tryd.func25, Tryd.ntmps25
    go_wp2
    go_ret
    exact ⟨_, rfl, .inr ⟨HW.out, w.heap.size, rfl, Nat.le_refl _, Blk.new _ _ _⟩, (Below.refl _ _).alloc (Nat.le_refl _) _⟩

/-- what holds of a scanner's state between its steps -/
structure Good (s : ByteArray) (t : St) : Prop where
  ok : t.wrong.code ≠ 0 ∨ Ok s t
  ln : t.line ≤ t.begin' + 1
  bs : t.begin' ≤ s.size
theorem measure_good {s : ByteArray} {t : St} (h1 : t.line ≤ t.begin' + 1) (h2 : t.begin' ≤ s.size) (h3 : Ok s t) : Good s (Lex.measure s t) := by
  unfold Lex.measure
  split
  · exact ⟨.inl (by simp), h1, h2⟩
  · exact ⟨.inr h3, h1, h2⟩
theorem rd_good {s : ByteArray} {t : St} (h : Good s t) : Good s (rd s t).2 := by
  rcases h.ok with hw | hok
  · have : (rd s t).2 = t := by unfold rd; rw [if_pos hw]
    rw [this]; exact h
  · have hln := h.ln
    have hb := hok.b
    have hin := Nat.le_trans hok.e (eol_ge s t.begin' hok.n)
    have hok2 : (rd s t).2.wrong.code ≠ 0 ∨ Ok s (rd s t).2 := by
      rcases rd_out s t hok with ⟨k, _, _, h3⟩ | ⟨_, _, _, h4⟩
      · exact .inr h3
      · exact h4
    suffices hh : (rd s t).2.line ≤ (rd s t).2.begin' + 1 ∧ (rd s t).2.begin' ≤ s.size from ⟨hok2, hh.1, hh.2⟩
    have key : ∀ i, t.at' ≤ i → i ≤ s.size → (Lex.ends s { t with at' := i }).2.line ≤ (Lex.ends s { t with at' := i }).2.begin' + 1 ∧ (Lex.ends s { t with at' := i }).2.begin' ≤ s.size := by
      intro i h1 h2
      unfold Lex.ends
      simp only
      by_cases c1 : i = s.size
      · rw [if_pos c1]
        by_cases c2 : i = t.begin'
        · rw [if_pos c2]; exact ⟨hln, h.bs⟩
        · rw [if_neg c2]; exact ⟨by simp only; omega, by simp only; omega⟩
      · rw [if_neg c1]
        obtain ⟨_, m2, m3⟩ := measure_at s ⟨i + 1, t.line + 1, i + 1, t.wrong⟩
        simp only
        rw [m2, m3]
        simp only; omega
    unfold rd
    split
    · exact ⟨hln, h.bs⟩
    · simp only
      have hle := skip_le (fun j => blk (at_ s j)) s.size t.at'
      have hge := skip_ge (fun j => blk (at_ s j)) s.size t.at' hin
      generalize skip (fun j => blk (at_ s j)) s.size t.at' = i at *
      by_cases c1 : i = s.size ∨ at_ s i = 10
      · rw [if_pos c1]; exact key i hle hge
      · rw [if_neg c1]
        by_cases c2 : at_ s i = 35
        · rw [if_pos c2]; exact key _ (Nat.le_trans hle (eol_le s i)) (eol_ge s i hge)
        · rw [if_neg c2]
          by_cases c3 : kd (at_ s i) = 0
          · rw [if_pos c3]; exact ⟨hln, h.bs⟩
          · rw [if_neg c3]
            by_cases c4 : bad s (kd (at_ s i)) i (rowEnd s (kd (at_ s i)) i) ≠ 0
            · rw [if_pos c4]; exact ⟨hln, h.bs⟩
            · rw [if_neg c4]; exact ⟨hln, h.bs⟩

/-- a scanner: its state, what it has told, and how much of that its user has -/
structure Sc where
  st : St
  told : List Tk
  nxt : Nat
/-- Next -/
def nx (s : ByteArray) (c : Sc) : Option Tk × Sc :=
  if c.nxt < c.told.length then (c.told[c.nxt]?, { c with nxt := c.nxt + 1 })
  else match rd s c.st with
    | (some k, t) => (some k, ⟨t, c.told ++ [k], c.nxt + 1⟩)
    | (none, t) => (none, { c with st := t })
/-- a scanner in memory; v: the list of what it has told -/
structure ScAt (w : World) (B : Nat) (s : ByteArray) (c : Sc) (v : Value) : Prop where
  sc : ∃ p, Scan w B s c.st v c.nxt p
  own : Own w (B + 1) v c.told
  le : c.nxt ≤ c.told.length
  good : Good s c.st
/-- v' lies where v lay, or in new memory -/
def Moved (L : Nat) (v v' : Value) : Prop := v'.ownBlock = v.ownBlock ∨ ∃ g, L ≤ g ∧ v'.ownBlock = some g
def NextOut (w : World) (B : Nat) (s : ByteArray) (c : Sc) (v : Value) (e : Ending) (w' : World) : Prop :=
  ∃ (v' : Value) (k : Tk) (b : Bool) (ev : Value), e = .returned (.tuple #[tkV k, .bool b, ev]) ∧ (nx s c).1 = (if b = true then some k else none) ∧ (b = true → ev = .nilIface) ∧ (b = false → k = noTk ∧ ErrV (nx s c).2.st.wrong w.heap.size w' ev) ∧
    ScAt w' B s (nx s c).2 v' ∧ Moved w.heap.size v v' ∧ Only w w' (fun k => k = B ∨ v.ownBlock = some k)

theorem ScAt.next {w : World} {B : Nat} {s : ByteArray} {c : Sc} {v : Value} (h : ScAt w B s c v) {m : Nat} (hm : m ≤ c.told.length) : ScAt (w.setCell ⟨B, 5, none⟩ (.int .i64 m)) B s { c with nxt := m } v := by
  obtain ⟨p, hp⟩ := h.sc
  exact ⟨⟨p, hp.blk.set 5 _, hp.wr.only ((Only.refl w (· = B)).setCell ⟨B, 5, none⟩ _ (fun _ => rfl))⟩, ownsRow_setCell_below h.own (a := ⟨B, 5, none⟩) (by simp) _, hm, h.good⟩
theorem Wrong.drew {w : World} {B : Nat} {x : Wr} {p : Value} (h : Wrong w B x p) : Wrong w.drew B x p := by
  rcases h with h | ⟨h1, F, h2, h3, h4⟩
  · exact .inl h
  · exact .inr ⟨h1, F, h2, h3, h4⟩
theorem ScAt.drew {w : World} {B : Nat} {s : ByteArray} {c : Sc} {v : Value} (h : ScAt w B s c v) : ScAt w.drew B s c v := by
  obtain ⟨p, hp⟩ := h.sc
  exact ⟨⟨p, hp.blk, hp.wr.drew⟩, h.own, h.le, h.good⟩
theorem ScAt.below {w w1 : World} {B : Nat} {s : ByteArray} {c : Sc} {v : Value} (h : ScAt w B s c v) (hb : Below w.heap.size w w1) : ScAt w1 B s c v := by
  obtain ⟨p, hp⟩ := h.sc
  exact ⟨⟨p, hp.below hb⟩, ownsRow_below h.own hb (fun g e => (h.own.lt g e).2), h.le, h.good⟩
theorem ScAt.alloc {w : World} {B : Nat} {s : ByteArray} {c : Sc} {v : Value} (h : ScAt w B s c v) (o : Obj) : ScAt (w.alloc o) B s c v := h.below ((Below.refl _ _).alloc (Nat.le_refl _) o)
theorem ErrV.putTk {x : Wr} {L L' : Nat} {w : World} {v : Value} {R : Nat} {c : Array Value} (h : ErrV x L w v) (hL : L' ≤ L) (hR : Blk w R c 38) (k l : Int) (y : ByteArray) (u d : Int) : ErrV x L' (putTk w R k l y u d) v := by
  rcases h with h | ⟨h1, F, h2, h3, h4⟩
  · exact .inl h
  · exact .inr ⟨h1, F, h2, Nat.le_trans hL h3, h4.putTk (h4.ne hR (by decide)) k l y u d⟩
section
variable {P : Program}
/-- append to a list of its own, as a step of a region that draws its order -/
theorem step_append_own {ops : Array Oper} {o : Oper} {a : Act} {w : World} {K : Act → World → Prop} {Q : Exit → Act → World → Prop} {E : Prop} (hgd : o.guard = none) (s x : Operand) (t : TypeId)
    (ho : o.op = .call { callee := .builtin .append, args := #[s, x], argTypes := #[t, t] })
    (base : Nat) (e : TypeId) (i : TypeInfo) (z : Value) (size bytes : Nat) (ht : P.underlying t = some (.slice e)) (hi : P.info? e = some i) (hz : i.zero = some z)
    (hsize : i.size = size) (hby : i.bytes = bytes) (hzs : z.cells.size = size) (hsz : 0 < size)
    (v : Value) (n : Nat) (xs : List Value) (hs : a.eval s = v) (hown : w.ownsRow base e size v n xs)
    (ad : Addr) (m c : Nat) (news : List Value) (hx : a.eval x = .slice (some ad) m c) (hl : news.length = m * size) (hnews : ∀ j u, news[j]? = some u → w.cell? (ad.add j) = some u) (h1 : ∀ u ∈ news, u.oneCell' = true)
    (h63 : n + m ≤ maxLen) (hbytes : (n + m) * bytes ≤ 140737488355328) (hbase : base ≤ w.heap.size)
    (h : ∀ v' w', w'.ownsRow base e size v' (n + m) (xs ++ news) → w.grownBy w' v.ownBlock → (v'.ownBlock = v.ownBlock ∨ v'.ownBlock = some w.heap.size) → K (a.put o.dst v') w') :
    if Region.wanted o (yielded ops a.tmps) = true then Oper.wp P o a w K Q else E := by
  have hw : Region.wanted o (yielded ops a.tmps) = true := by simp [Region.wanted, hgd]
  rw [if_pos hw]
  obtain ⟨v', w', hr, h2, h3, h4, h5⟩ := run_append_own_at (P := P) w base t o.type e i z size bytes ht hi hz hsize hby hzs hsz v n xs hown ad m c news hl hnews h1 h63 hbytes hbase
  unfold Oper.wp execOp
  simp only [ho, resolve, invoke, builtin, Sem.run_bind, Sem.run_pure, Result.andThen_ok, List.map_toArray, List.map_cons, List.map_nil, hs, hx, hr]
  exact h v' w' h2 h3 h5
end
end Go.Proofs.YtghlfpeifdikkaaDoor
