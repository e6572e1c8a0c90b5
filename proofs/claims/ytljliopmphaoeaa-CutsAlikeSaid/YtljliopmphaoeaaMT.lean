/- A tree of cuts in memory. The way of a header through a tree of cuts. -/
import Derived.Test.YtljliopmphaoeaaTr
import Derived.Maps.AppendAt
namespace Go.Proofs.Ytljliopmphaoeaa
open Go Go.RowKit Go.Proofs.Ytljliopmphaoeaa.Q

/-! ### rows of one width -/
theorem flat_len {α : Type} (f : α → List Value) (w : Nat) (hf : ∀ a, (f a).length = w) : ∀ xs : List α, (xs.flatMap f).length = xs.length * w
  | [] => by simp
  | a :: t => by rw [List.flatMap_cons, List.length_append, hf, flat_len f w hf t, List.length_cons, Nat.add_mul, Nat.one_mul, Nat.add_comm]
theorem flat_get {α : Type} (f : α → List Value) (w : Nat) (hf : ∀ a, (f a).length = w) : ∀ (xs : List α) (k : Nat) (hk : k < xs.length) (i : Nat) (_ : i < w), (xs.flatMap f)[k * w + i]? = (f xs[k])[i]?
  | a :: t, 0, _, i, hi => by rw [List.flatMap_cons, Nat.zero_mul, Nat.zero_add, List.getElem?_append_left (by rw [hf]; exact hi)]; rfl
  | a :: t, k + 1, hk, i, hi => by
    rw [List.flatMap_cons, List.getElem?_append_right (by rw [hf, Nat.add_mul, Nat.one_mul]; omega), hf, show (k + 1) * w + i - w = k * w + i by rw [Nat.add_mul, Nat.one_mul]; omega, flat_get f w hf t k (by simpa using hk) i hi]
    rfl
theorem flat_set {α : Type} (f : α → List Value) (w : Nat) (hf : ∀ a, (f a).length = w) (a' : α) (i : Nat) (u : Value) : ∀ (xs : List α) (k : Nat) (hk : k < xs.length) (_ : i < w) (_ : f a' = (f xs[k]).set i u), (xs.flatMap f).set (k * w + i) u = (xs.set k a').flatMap f
  | a :: t, 0, _, hi, he => by
    rw [List.flatMap_cons, Nat.zero_mul, Nat.zero_add, List.set_append_left _ _ (by rw [hf]; exact hi), List.set_cons_zero, List.flatMap_cons, he]; rfl
  | a :: t, k + 1, hk, hi, he => by
    rw [List.flatMap_cons, List.set_append_right _ _ (by rw [hf, Nat.add_mul, Nat.one_mul]; omega), hf, show (k + 1) * w + i - w = k * w + i by rw [Nat.add_mul, Nat.one_mul]; omega,
      flat_set f w hf a' i u t k (by simpa using hk) hi he, List.set_cons_succ, List.flatMap_cons]
theorem row_cells {W : World} {base size n : Nat} {e : TypeId} {v : Value} {xs : List Value} (h : W.ownsRow base e size v n xs) (hn : 0 < n) : ∃ g cap, v = .slice (some ⟨g, 0, none⟩) n cap ∧ base ≤ g ∧ g < W.heap.size ∧ ∀ j u, xs[j]? = some u → W.cell? ⟨g, j, none⟩ = some u := by
  obtain ⟨h1, h2⟩ := h
  rcases h2 with ⟨_, h2⟩ | ⟨g, cap, cur, rfl, h3, h4, h5, h6, h7, h8⟩
  · omega
  · refine ⟨g, cap, rfl, h3, (Array.getElem?_eq_some_iff.1 h4).1, fun j u hj => ?_⟩
    rw [← h8, List.getElem?_take] at hj
    split at hj
    · simp only [World.cell?, h4]
      simpa using hj
    · cases hj

/-- numbers, boxes, nodes as cells -/
def numC (l : List Nat) : List Value := l.map (fun i : Nat => .int .i64 (i : Int))
/-- a list of numbers of one's own -/
def OwnN (W : World) (base : Nat) (v : Value) (l : List Nat) : Prop := W.ownsRow base 3 1 v l.length (numC l)
theorem OwnN.slice {W : World} {base : Nat} {v : Value} {l : List Nat} (h : OwnN W base v l) : ∃ A cap, v = .slice A l.length cap ∧ NumsAt W A l := by
  by_cases hn : 0 < l.length
  · obtain ⟨g, cap, rfl, _, h3, h4⟩ := row_cells h hn
    exact ⟨_, cap, rfl, ⟨fun k hk => ⟨g, 0, rfl, h3, by rw [Nat.zero_add]; exact h4 k _ (by unfold numC; rw [List.getElem?_map, List.getElem?_eq_getElem hk]; rfl)⟩⟩⟩
  · have e : l = [] := List.length_eq_zero_iff.1 (by omega)
    subst e
    rcases h.2 with ⟨rfl, _⟩ | ⟨g, cap, cur, rfl, _⟩
    · exact ⟨none, 0, rfl, ⟨fun k hk => absurd hk (by simp)⟩⟩
    · exact ⟨_, cap, rfl, ⟨fun k hk => absurd hk (by simp)⟩⟩
def boxC (b : Bx) : List Value := [.int .u32 b.src.lo, .int .u32 b.src.hi, .int .u32 b.dst.lo, .int .u32 b.dst.hi, .int .u16 b.sp.lo, .int .u16 b.sp.hi, .int .u16 b.dp.lo, .int .u16 b.dp.hi, .int .u8 b.pr.v, .int .u8 b.pr.c]
def boxesC (bs : List Bx) : List Value := bs.flatMap boxC
def OwnB (W : World) (base : Nat) (v : Value) (bs : List Bx) : Prop := W.ownsRow base 109 10 v bs.length (boxesC bs)
theorem OwnB.slice {W : World} {base : Nat} {v : Value} {bs : List Bx} (h : OwnB W base v bs) : ∃ A cap, v = .slice A bs.length cap ∧ BoxesAt W A bs := by
  by_cases hn : 0 < bs.length
  · obtain ⟨g, cap, rfl, _, h3, h4⟩ := row_cells h hn
    refine ⟨_, cap, rfl, ⟨fun k hk => ⟨g, 0, rfl, h3, fun i u hu => ?_⟩⟩⟩
    rw [Nat.zero_add]
    have hi : i < 10 := (Array.getElem?_eq_some_iff.1 hu).1
    refine h4 _ u ?_
    unfold boxesC
    rw [flat_get boxC 10 (fun _ => rfl) bs k hk i hi]
    unfold boxC
    simpa using hu
  · have e : bs = [] := List.length_eq_zero_iff.1 (by omega)
    subst e
    rcases h.2 with ⟨rfl, _⟩ | ⟨g, cap, cur, rfl, _⟩
    · exact ⟨none, 0, rfl, ⟨fun k hk => absurd hk (by simp)⟩⟩
    · exact ⟨_, cap, rfl, ⟨fun k hk => absurd hk (by simp)⟩⟩
structure Nd where
  low : Value
  k0 : Nat
  k1 : Nat
  list : Value
def Nd.zero : Nd := ⟨.nilFunc, 0, 0, .slice none 0 0⟩
def ndC (n : Nd) : List Value := [n.low, .int .i64 n.k0, .int .i64 n.k1, n.list]
def ndsC (ns : List Nd) : List Value := ns.flatMap ndC
def OwnD (W : World) (base : Nat) (v : Value) (ns : List Nd) : Prop := W.ownsRow base 90 4 v ns.length (ndsC ns)
/-- a node in memory -/
theorem OwnD.node {W : World} {base : Nat} {v : Value} {ns : List Nd} (h : OwnD W base v ns) (k : Nat) (hk : k < ns.length) : ∃ g cap, v = .slice (some ⟨g, 0, none⟩) ns.length cap ∧ base ≤ g ∧ g < W.heap.size ∧ (∀ i, W.frozen? ⟨g, i, none⟩ = false) ∧
    W.cell? ⟨g, k * 4, none⟩ = some ns[k].low ∧ W.cell? ⟨g, k * 4 + 1, none⟩ = some (.int .i64 ns[k].k0) ∧ W.cell? ⟨g, k * 4 + 2, none⟩ = some (.int .i64 ns[k].k1) ∧ W.cell? ⟨g, k * 4 + 3, none⟩ = some ns[k].list ∧ ∃ cs, W.heap[g]? = some (.cells cs 90 (0, 0)) := by
  obtain ⟨g, cap, rfl, h2, h3, h4⟩ := row_cells h (by omega)
  have hf := flat_get ndC 4 (fun _ => rfl) ns k hk
  have hr : ∃ cs, W.heap[g]? = some (.cells cs 90 (0, 0)) := by
    rcases h.2 with ⟨e, _⟩ | ⟨g', cap', cur, e, _, h5, _⟩
    · cases e
    · cases e; exact ⟨_, h5⟩
  have hr' := hr
  obtain ⟨cs, hr⟩ := hr
  exact ⟨g, cap, rfl, h2, h3, fun i => by simp [World.frozen?, hr], h4 _ _ (hf 0 (by omega)), h4 _ _ (hf 1 (by omega)), h4 _ _ (hf 2 (by omega)), h4 _ _ (hf 3 (by omega)), hr'⟩
/-- a node's cell is written -/
theorem OwnD.set {W : World} {base g n cap : Nat} {ns : List Nd} (h : OwnD W base (.slice (some ⟨g, 0, none⟩) n cap) ns) (k : Nat) (hk : k < ns.length) (i : Nat) (hi : i < 4) (nd : Nd) (u : Value) (he : ndC nd = (ndC ns[k]).set i u) :
    OwnD (W.setCell ⟨g, k * 4 + i, none⟩ u) base (.slice (some ⟨g, 0, none⟩) n cap) (ns.set k nd) := by
  obtain ⟨h1, h2⟩ := h
  unfold OwnD World.ownsRow
  rw [List.length_set]
  refine ⟨by rw [ndsC, flat_len ndC 4 (fun _ => rfl), List.length_set], ?_⟩
  rcases h2 with ⟨h2, _⟩ | ⟨g', cap', cur, e, h3, h4, h5, h6, h7, h8⟩
  · cases h2
  · cases e
    refine .inr ⟨g, cap, cur.setIfInBounds (k * 4 + i) u, rfl, h3, Blk.set (W := W) (B := g) h4 (k * 4 + i) u, h5, h6, by simpa using h7, ?_⟩
    rw [Array.toList_setIfInBounds, List.take_set, h8]
    exact flat_set ndC 4 (fun _ => rfl) nd i u ns k hk hi he

/-! ### what making a tree leaves as it was: all but the engine's block and its nodes' -/
structure KeptN (E base : Nat) (w w' : World) : Prop where
  os : w'.os = w.os
  tape : w'.tape = w.tape
  output : w'.output = w.output
  size : w.heap.size ≤ w'.heap.size
  block : ∀ k, k < w.heap.size → k ≠ E → (k < base ∨ ∀ cs, w.heap[k]? ≠ some (.cells cs 90 (0, 0))) → w'.heap[k]? = w.heap[k]?
section
variable {E base : Nat} {w w1 w2 : World}
theorem KeptN.refl (E base : Nat) (w : World) : KeptN E base w w := ⟨rfl, rfl, rfl, Nat.le_refl _, fun _ _ _ _ => rfl⟩
theorem KeptN.trans (h : KeptN E base w w1) (k : KeptN E base w1 w2) : KeptN E base w w2 :=
  ⟨k.os.trans h.os, k.tape.trans h.tape, k.output.trans h.output, Nat.le_trans h.size k.size, fun b hb hE hT => by
    have e := h.block b hb hE hT
    exact (k.block b (Nat.lt_of_lt_of_le hb h.size) hE (by rw [e]; exact hT)).trans e⟩
theorem KeptN.below (h : Below w.heap.size w w1) : KeptN E base w w1 := ⟨h.os, h.tape, h.output, h.size, fun k hk _ _ => h.block k hk⟩
theorem KeptN.only {S : Nat → Prop} (h : Only w w1 S) (hS : ∀ k, k < w.heap.size → S k → k = E ∨ (base ≤ k ∧ ∃ cs, w.heap[k]? = some (.cells cs 90 (0, 0)))) : KeptN E base w w1 :=
  ⟨h.os, h.tape, h.output, h.size, fun k hk hE hT => h.block k hk fun hk' => by
    rcases hS k hk hk' with e | ⟨h1, cs, h2⟩
    · exact hE e
    · rcases hT with h3 | h3
      · omega
      · exact h3 cs h2⟩
theorem KeptN.toOnly (h : KeptN E base w w1) : Only w w1 (fun k => k = E ∨ base ≤ k) :=
  ⟨h.os, h.tape, h.output, h.size, fun k hk hS => h.block k hk (fun e => hS (.inl e)) (.inl (Nat.lt_of_not_le fun e => hS (.inr e)))⟩
theorem KeptN.blk {k : Nat} {cs es : Array Value} {T : TypeId} (h : KeptN E base w w1) (hE : Blk w E es 85) (hk : Blk w k cs T) (h1 : T ≠ 90) (h2 : T ≠ 85) : Blk w1 k cs T :=
  (h.block k hk.lt (neTypes hk hE h2) (.inr fun c e => by
    unfold Blk at hk
    rw [hk] at e
    exact h1 (by simpa using congrArg (fun o => match o with | some (Obj.cells _ T _) => T | _ => 0) e))).trans hk
theorem KeptN.row {b size n : Nat} {e : TypeId} {v : Value} {xs : List Value} {es : Array Value} (h : KeptN E base w w1) (hE : Blk w E es 85) (hk : w.ownsRow b e size v n xs) (h1 : e ≠ 90) (h2 : e ≠ 85) : w1.ownsRow b e size v n xs := by
  obtain ⟨k1, k2⟩ := hk
  refine ⟨k1, ?_⟩
  rcases k2 with k2 | ⟨g, cap, cur, r1, r2, r3, r⟩
  · exact .inl k2
  · exact .inr ⟨g, cap, cur, r1, r2, h.blk hE r3 h1 h2, r⟩
theorem KeptN.one {k : Nat} {v : Value} {es : Array Value} (h : KeptN E base w w1) (hE : Blk w E es 85) (hk : One w k v) : One w1 k v := by
  obtain ⟨T, h1, h2, h3⟩ := hk
  exact ⟨T, h.blk hE h1 h2 h3, h2, h3⟩
theorem KeptN.way {v : Value} {fn f g : FuncId} {es : Array Value} (h : KeptN E base w w1) (hE : Blk w E es 85) (hk : WayAt w v fn f g) : WayAt w1 v fn f g := by
  obtain ⟨a, b, h1, h2, h3⟩ := hk
  exact ⟨a, b, h1, h.one hE h2, h.one hE h3⟩
theorem KeptN.ways {S : Nat} {es : Array Value} (h : KeptN E base w w1) (hE : Blk w E es 85) (hk : WaysAt w S) : WaysAt w1 S := by
  obtain ⟨v0, v1, v2, v3, h0, h1, h2, h3, h4⟩ := hk
  exact ⟨v0, v1, v2, v3, h.blk hE h0 (by decide) (by decide), h.way hE h1, h.way hE h2, h.way hE h3, h.way hE h4⟩
end
/-! ### which half a header goes to, as a function value -/
def LowR (W : World) (v : Value) (fn g : FuncId) (mv : Value) (T : TypeId) : Prop := ∃ O M, v = .func (.func fn) #[] #[.pointer (some ⟨O, 0, none⟩), .pointer (some ⟨M, 0, none⟩)] ∧ One W O (.func (.func g) #[] #[]) ∧ Blk W M #[mv] T
def LowAt (W : World) (v : Value) (f : Hdr → Bool) : Prop :=
  (∃ mid : Nat, LowR W v 92 70 (.int .u32 (mid : Int)) 25 ∧ f = fun h => decide (h.src ≤ mid)) ∨
  (∃ mid : Nat, LowR W v 92 72 (.int .u32 (mid : Int)) 25 ∧ f = fun h => decide (h.dst ≤ mid)) ∨
  (∃ mid : Nat, LowR W v 94 75 (.int .u16 (mid : Int)) 26 ∧ f = fun h => decide (h.sp ≤ mid)) ∨
  (∃ mid : Nat, LowR W v 94 77 (.int .u16 (mid : Int)) 26 ∧ f = fun h => decide (h.dp ≤ mid)) ∨
  (∃ bit M : Nat, bit < 256 ∧ v = .func (.func 96) #[] #[.pointer (some ⟨M, 0, none⟩)] ∧ Blk W M #[.int .u8 (bit : Int)] 5 ∧ f = fun h => decide (h.pr &&& bit = 0))
theorem KeptN.lowR {E base : Nat} {w w1 : World} {v mv : Value} {fn g : FuncId} {T : TypeId} {es : Array Value} (h : KeptN E base w w1) (hE : Blk w E es 85) (hk : LowR w v fn g mv T) (h1 : T ≠ 90) (h2 : T ≠ 85) : LowR w1 v fn g mv T := by
  obtain ⟨O, M, k1, k2, k3⟩ := hk
  exact ⟨O, M, k1, h.one hE k2, h.blk hE k3 h1 h2⟩
theorem KeptN.low {E base : Nat} {w w1 : World} {v : Value} {f : Hdr → Bool} {es : Array Value} (h : KeptN E base w w1) (hE : Blk w E es 85) (hk : LowAt w v f) : LowAt w1 v f := by
  rcases hk with ⟨m, k1, k2⟩ | ⟨m, k1, k2⟩ | ⟨m, k1, k2⟩ | ⟨m, k1, k2⟩ | ⟨b, M, k1, k2, k3, k4⟩
  · exact .inl ⟨m, h.lowR hE k1 (by decide) (by decide), k2⟩
  · exact .inr (.inl ⟨m, h.lowR hE k1 (by decide) (by decide), k2⟩)
  · exact .inr (.inr (.inl ⟨m, h.lowR hE k1 (by decide) (by decide), k2⟩))
  · exact .inr (.inr (.inr (.inl ⟨m, h.lowR hE k1 (by decide) (by decide), k2⟩)))
  · exact .inr (.inr (.inr (.inr ⟨b, M, k1, k2, h.blk hE k3 (by decide) (by decide), k4⟩)))
theorem LowAt.below {W W' : World} {v : Value} {f : Hdr → Bool} (hk : LowAt W v f) (hb : Below W.heap.size W W') : LowAt W' v f := by
  have hr : ∀ {fn g : FuncId} {mv : Value} {T : TypeId}, LowR W v fn g mv T → LowR W' v fn g mv T := fun ⟨O, M, k1, k2, k3⟩ => ⟨O, M, k1, k2.below hb, k3.below hb k3.lt⟩
  rcases hk with ⟨m, k1, k2⟩ | ⟨m, k1, k2⟩ | ⟨m, k1, k2⟩ | ⟨m, k1, k2⟩ | ⟨b, M, k1, k2, k3, k4⟩
  · exact .inl ⟨m, hr k1, k2⟩
  · exact .inr (.inl ⟨m, hr k1, k2⟩)
  · exact .inr (.inr (.inl ⟨m, hr k1, k2⟩))
  · exact .inr (.inr (.inr (.inl ⟨m, hr k1, k2⟩)))
  · exact .inr (.inr (.inr (.inr ⟨b, M, k1, k2, k3.below hb k3.lt, k4⟩)))
/-- a function with a body is entered -/
def Entered (F : FuncId) : Prop := ∀ args w, Sem.run Try.prog (callFunc F args) w = .ok (.enter F args) w
theorem ent0 : Entered 91 := by intro args w; go_simp
theorem ent1 : Entered 93 := by intro args w; go_simp
theorem ent2 : Entered 78 := by intro args w; go_simp
theorem ent3 : Entered 92 := by intro args w; go_simp
theorem ent4 : Entered 94 := by intro args w; go_simp
theorem ent5 : Entered 96 := by intro args w; go_simp
/-- a function value that is one is called by its number -/
theorem LowAt.call {W : World} {v : Value} {f : Hdr → Bool} (hk : LowAt W v f) : ∃ F caps, v = .func (.func F) #[] caps ∧ Entered F ∧ ∀ h : Hdr, h.Wf → ∀ W', Below W.heap.size W W' → Calls Try.prog F (#[.agg #[.int .u32 h.src, .int .u32 h.dst, .int .u16 h.sp, .int .u16 h.dp, .int .u8 h.pr]] ++ caps) W' fun e w' => e = .returned (.bool (f h)) ∧ Below W'.heap.size W' w' := by
  rcases hk with ⟨m, ⟨O, M, k1, k2, k3⟩, rfl⟩ | ⟨m, ⟨O, M, k1, k2, k3⟩, rfl⟩ | ⟨m, ⟨O, M, k1, k2, k3⟩, rfl⟩ | ⟨m, ⟨O, M, k1, k2, k3⟩, rfl⟩ | ⟨b, M, k0, k1, k3, rfl⟩
  · exact ⟨_, _, k1, ent3, fun h _ W' hb => low0_any h O M m W' (k2.below hb).cell ((k3.below hb k3.lt).cell (i := 0) rfl)⟩
  · exact ⟨_, _, k1, ent3, fun h _ W' hb => low1_any h O M m W' (k2.below hb).cell ((k3.below hb k3.lt).cell (i := 0) rfl)⟩
  · exact ⟨_, _, k1, ent4, fun h _ W' hb => low2_any h O M m W' (k2.below hb).cell ((k3.below hb k3.lt).cell (i := 0) rfl)⟩
  · exact ⟨_, _, k1, ent4, fun h _ W' hb => low3_any h O M m W' (k2.below hb).cell ((k3.below hb k3.lt).cell (i := 0) rfl)⟩
  · exact ⟨_, _, k1, ent5, fun h hh W' hb => low4_any h M b W' hh.pr k0 ((k3.below hb k3.lt).cell (i := 0) rfl)⟩

/-! ### the ways to cut -/
/-- a box that a way does not cut -/
def NoCut : Nat → Bx → Prop
  | 0, b => b.src.lo = b.src.hi
  | 1, b => b.dst.lo = b.dst.hi
  | 2, b => b.sp.lo = b.sp.hi
  | 3, b => b.dp.lo = b.dp.hi
  | _, b => b.pr.c = 255
theorem single_of {b : Bx} (h : ∀ k, k < 5 → NoCut k b) : Single b := ⟨h 0 (by omega), h 1 (by omega), h 2 (by omega), h 3 (by omega), h 4 (by omega)⟩
theorem way_any (S k : Nat) (hk : k < 5) (W : World) (hW : WaysAt W S) (b : Bx) (hb : Good b) : ∃ F caps, W.cell? ⟨S, k, none⟩ = some (.func (.func F) #[] caps) ∧ Entered F ∧ ∀ W', Below W.heap.size W W' → Calls Try.prog F (#[.agg #[.int .u32 b.src.lo, .int .u32 b.src.hi, .int .u32 b.dst.lo, .int .u32 b.dst.hi, .int .u16 b.sp.lo, .int .u16 b.sp.hi, .int .u16 b.dp.lo, .int .u16 b.dp.hi, .int .u8 b.pr.v, .int .u8 b.pr.c]] ++ caps) W' fun e w' =>
    ∃ x y fv ok, e = .returned (.tuple #[.agg #[.int .u32 x.src.lo, .int .u32 x.src.hi, .int .u32 x.dst.lo, .int .u32 x.dst.hi, .int .u16 x.sp.lo, .int .u16 x.sp.hi, .int .u16 x.dp.lo, .int .u16 x.dp.hi, .int .u8 x.pr.v, .int .u8 x.pr.c], .agg #[.int .u32 y.src.lo, .int .u32 y.src.hi, .int .u32 y.dst.lo, .int .u32 y.dst.hi, .int .u16 y.sp.lo, .int .u16 y.sp.hi, .int .u16 y.dp.lo, .int .u16 y.dp.hi, .int .u8 y.pr.v, .int .u8 y.pr.c], fv, .bool ok]) ∧ Below W'.heap.size W' w' ∧ (ok = true → ∃ f, CutOk b x y f ∧ LowAt w' fv f) ∧ (ok = false → NoCut k b) := by
  obtain ⟨v0, v1, v2, v3, h0, h1, h2, h3, h4⟩ := hW
  have kb := (Bx.ok_iff b).1 hb.ck
  have ks := (Spn.ok_iff _).1 kb.2.2.1
  have kd := (Spn.ok_iff _).1 kb.2.2.2.1
  match k, hk with
  | 0, _ =>
    obtain ⟨a, c, rfl, ha, hc⟩ := h1
    refine ⟨_, _, h0.cell (i := 0) rfl, ent0, fun W' hW' => ?_⟩
    by_cases he : b.src.lo = b.src.hi
    · exact (cut0_no b a c W' (ha.below hW').cell he).mono fun e w' ⟨h1, h2⟩ => ⟨b, b, _, false, h1, h2, (fun h => by cases h), fun _ => he⟩
    · refine (cut0_ok b a c _ _ W' (ha.below hW').cell (by omega) hb.wf.src.hi rfl rfl).mono fun e w' ⟨T, h1, h2, h3, h4⟩ => ⟨⟨⟨b.src.lo, _⟩, b.dst, b.sp, b.dp, b.pr⟩, ⟨⟨_, b.src.hi⟩, b.dst, b.sp, b.dp, b.pr⟩, _, true, h1, h4, (fun _ => ⟨_, cut0_law b hb _ _ (by omega) rfl rfl, .inl ⟨_, ⟨c, T, rfl, (hc.below hW').below h4, h3⟩, rfl⟩⟩), fun h => by cases h⟩
  | 1, _ =>
    obtain ⟨a, c, rfl, ha, hc⟩ := h2
    refine ⟨_, _, h0.cell (i := 1) rfl, ent0, fun W' hW' => ?_⟩
    by_cases he : b.dst.lo = b.dst.hi
    · exact (cut1_no b a c W' (ha.below hW').cell he).mono fun e w' ⟨h1, h2⟩ => ⟨b, b, _, false, h1, h2, (fun h => by cases h), fun _ => he⟩
    · refine (cut1_ok b a c _ _ W' (ha.below hW').cell (by omega) hb.wf.dst.hi rfl rfl).mono fun e w' ⟨T, h1, h2, h3, h4⟩ => ⟨⟨b.src, ⟨b.dst.lo, _⟩, b.sp, b.dp, b.pr⟩, ⟨b.src, ⟨_, b.dst.hi⟩, b.sp, b.dp, b.pr⟩, _, true, h1, h4, (fun _ => ⟨_, cut1_law b hb _ _ (by omega) rfl rfl, .inr (.inl ⟨_, ⟨c, T, rfl, (hc.below hW').below h4, h3⟩, rfl⟩)⟩), fun h => by cases h⟩
  | 2, _ =>
    obtain ⟨a, c, rfl, ha, hc⟩ := h3
    refine ⟨_, _, h0.cell (i := 2) rfl, ent1, fun W' hW' => ?_⟩
    by_cases he : b.sp.lo = b.sp.hi
    · exact (cut2_no b a c W' (ha.below hW').cell he).mono fun e w' ⟨h1, h2⟩ => ⟨b, b, _, false, h1, h2, (fun h => by cases h), fun _ => he⟩
    · refine (cut2_ok b a c _ _ W' (ha.below hW').cell (by omega) hb.wf.sp.hi rfl rfl).mono fun e w' ⟨T, h1, h2, h3, h4⟩ => ⟨⟨b.src, b.dst, ⟨b.sp.lo, _⟩, b.dp, b.pr⟩, ⟨b.src, b.dst, ⟨_, b.sp.hi⟩, b.dp, b.pr⟩, _, true, h1, h4, (fun _ => ⟨_, cut2_law b hb _ _ (by omega) rfl rfl, .inr (.inr (.inl ⟨_, ⟨c, T, rfl, (hc.below hW').below h4, h3⟩, rfl⟩))⟩), fun h => by cases h⟩
  | 3, _ =>
    obtain ⟨a, c, rfl, ha, hc⟩ := h4
    refine ⟨_, _, h0.cell (i := 3) rfl, ent1, fun W' hW' => ?_⟩
    by_cases he : b.dp.lo = b.dp.hi
    · exact (cut3_no b a c W' (ha.below hW').cell he).mono fun e w' ⟨h1, h2⟩ => ⟨b, b, _, false, h1, h2, (fun h => by cases h), fun _ => he⟩
    · refine (cut3_ok b a c _ _ W' (ha.below hW').cell (by omega) hb.wf.dp.hi rfl rfl).mono fun e w' ⟨T, h1, h2, h3, h4⟩ => ⟨⟨b.src, b.dst, b.sp, ⟨b.dp.lo, _⟩, b.pr⟩, ⟨b.src, b.dst, b.sp, ⟨_, b.dp.hi⟩, b.pr⟩, _, true, h1, h4, (fun _ => ⟨_, cut3_law b hb _ _ (by omega) rfl rfl, .inr (.inr (.inr (.inl ⟨_, ⟨c, T, rfl, (hc.below hW').below h4, h3⟩, rfl⟩)))⟩), fun h => by cases h⟩
  | 4, _ =>
    refine ⟨_, _, h0.cell (i := 4) rfl, ent2, fun W' hW' => ?_⟩
    by_cases he : b.pr.c = 255
    · exact (cut4_no b W' he).mono fun e w' ⟨h1, h2⟩ => ⟨b, b, _, false, h1, h2, (fun h => by cases h), fun _ => he⟩
    · have hc := hb.wf.pr.c
      obtain ⟨j, hj, g1, g2, g3⟩ := free_bit ⟨b.pr.c, by omega⟩
      simp only at g1 g2 g3
      have hk : (8 - (j + 1)) + Lib.bitLen (255 - b.pr.c) = 8 := by omega
      have hbit : 128 >>> (8 - (j + 1)) < 256 := by rw [g3]; exact (Nat.pow_lt_pow_right (by omega) hj : 2 ^ j < 2 ^ 8)
      refine (cut4_ok b (8 - (j + 1)) _ _ _ W' (by omega) hk rfl hb.wf.pr.v rfl rfl).mono fun e w' ⟨T, h1, h2, h3, h4⟩ => ⟨⟨b.src, b.dst, b.sp, b.dp, ⟨b.pr.v, _⟩⟩, ⟨b.src, b.dst, b.sp, b.dp, ⟨_, _⟩⟩, _, true, h1, h4, (fun _ => ⟨_, cut4_law b hb _ _ _ _ (by omega) hk rfl rfl rfl, .inr (.inr (.inr (.inr ⟨_, T, hbit, rfl, h3, rfl⟩)))⟩), fun h => by cases h⟩

/-! ### the tree -/
/-- a node's tree: the rules of a leaf, or two halves of its box -/
inductive Tree (W : World) (ns : List Nd) (bs : List Bx) (binth D : Nat) : Nat → Bx → List Nat → Nat → Prop
  | leaf (i : Nat) (b : Bx) (l : List Nat) (d : Nat) (nd : Nd) (h1 : ns[i]? = some nd) (h2 : nd.low = .nilFunc) (h3 : OwnN W 0 nd.list l) (h4 : l.length ≤ binth ∨ d = D) (h5 : d ≤ D) : Tree W ns bs binth D i b l d
  | cut (i : Nat) (b : Bx) (l : List Nat) (d : Nat) (nd : Nd) (f : Hdr → Bool) (x y : Bx) (h1 : ns[i]? = some nd) (h2 : LowAt W nd.low f) (h3 : CutOk b x y f) (h4 : i < nd.k0 ∧ i < nd.k1) (h6 : d < D)
      (t1 : Tree W ns bs binth D nd.k0 x (insideI bs x l) (d + 1)) (t2 : Tree W ns bs binth D nd.k1 y (insideI bs y l) (d + 1)) : Tree W ns bs binth D i b l d
theorem Tree.kept {W : World} {ns : List Nd} {bs : List Bx} {binth D i : Nat} {b : Bx} {l : List Nat} {d : Nat} (h : Tree W ns bs binth D i b l d) {W' : World} {E base : Nat} {es : Array Value} (hE : Blk W E es 85) (hk : KeptN E base W W') : Tree W' ns bs binth D i b l d := by
  induction h with
  | leaf i b l d nd h1 h2 h3 h4 h5 => exact .leaf i b l d nd h1 h2 (hk.row hE h3 (by decide) (by decide)) h4 h5
  | cut i b l d nd f x y h1 h2 h3 h4 h6 t1 t2 ih1 ih2 => exact .cut i b l d nd f x y h1 (hk.low hE h2) h3 h4 h6 ih1 ih2
theorem Tree.beyond {W : World} {ns : List Nd} {bs : List Bx} {binth D i : Nat} {b : Bx} {l : List Nat} {d : Nat} (h : Tree W ns bs binth D i b l d) {W' : World} (hb : Below W.heap.size W W') : Tree W' ns bs binth D i b l d := by
  induction h with
  | leaf i b l d nd h1 h2 h3 h4 h5 => exact .leaf i b l d nd h1 h2 (ownsRow_below h3 hb fun g hg => (h3.lt g hg).2) h4 h5
  | cut i b l d nd f x y h1 h2 h3 h4 h6 t1 t2 ih1 ih2 => exact .cut i b l d nd f x y h1 (h2.below hb) h3 h4 h6 ih1 ih2
theorem Tree.mono {W : World} {ns : List Nd} {bs : List Bx} {binth D i : Nat} {b : Bx} {l : List Nat} {d : Nat} (h : Tree W ns bs binth D i b l d) {ns' : List Nd} (hn : ∀ j nd, i ≤ j → ns[j]? = some nd → ns'[j]? = some nd) : Tree W ns' bs binth D i b l d := by
  induction h with
  | leaf i b l d nd h1 h2 h3 h4 h5 => exact .leaf i b l d nd (hn i nd (Nat.le_refl _) h1) h2 h3 h4 h5
  | cut i b l d nd f x y h1 h2 h3 h4 h6 t1 t2 ih1 ih2 => exact .cut i b l d nd f x y (hn i nd (Nat.le_refl _) h1) h2 h3 h4 h6 (ih1 fun j n hj => hn j n (by omega)) (ih2 fun j n hj => hn j n (by omega))
end Go.Proofs.Ytljliopmphaoeaa

namespace Go.Proofs.Ytljliopmphaoeaa
open Go Go.RowKit Go.Proofs.Ytljliopmphaoeaa.Q

/-- from a node of this depth a header comes to a leaf of that depth, which has this list -/
inductive Path (W : World) (ns : List Nd) (h : Hdr) : Nat → Nat → Nat → List Nat → Prop
  | leaf (i d : Nat) (nd : Nd) (m : List Nat) (h1 : ns[i]? = some nd) (h2 : nd.low = .nilFunc) (h3 : OwnN W 0 nd.list m) : Path W ns h i d d m
  | go (i d e : Nat) (nd : Nd) (m : List Nat) (f : Hdr → Bool) (h1 : ns[i]? = some nd) (h2 : LowAt W nd.low f) (t : Path W ns h (if f h = true then nd.k0 else nd.k1) (d + 1) e m) : Path W ns h i d e m
theorem Path.beyond {W W' : World} {ns : List Nd} {h : Hdr} {i d e : Nat} {m : List Nat} (k : Path W ns h i d e m) (hb : Below W.heap.size W W') : Path W' ns h i d e m := by
  induction k with
  | leaf i d nd m h1 h2 h3 => exact .leaf i d nd m h1 h2 (ownsRow_below h3 hb fun g hg => (h3.lt g hg).2)
  | go i d e nd m f h1 h2 t ih => exact .go i d e nd m f h1 (h2.below hb) ih
theorem Path.le {W : World} {ns : List Nd} {h : Hdr} {i d e : Nat} {m : List Nat} (k : Path W ns h i d e m) : d ≤ e := by
  induction k with
  | leaf => exact Nat.le_refl _
  | go i d e nd m f h1 h2 t ih => omega
/-- a header of a node's box comes to a leaf, and the first match is that of the node's rules -/
theorem Tree.path {W : World} {ns : List Nd} {bs : List Bx} {B D i : Nat} {b : Bx} {l : List Nat} {d : Nat} (t : Tree W ns bs B D i b l d) (hbs : ∀ x ∈ bs, x.ck = 0) (h : Hdr) (hh : b.has h = true) :
    ∃ e m, Path W ns h i d e m ∧ e ≤ D ∧ (m.length ≤ B ∨ e = D) ∧ m.find? (hitI bs h) = l.find? (hitI bs h) ∧ m.length ≤ l.length ∧ ∀ j ∈ m, j ∈ l := by
  induction t with
  | leaf i b l d nd h1 h2 h3 h4 h5 => exact ⟨d, l, .leaf i d nd l h1 h2 h3, h5, h4, rfl, Nat.le_refl _, fun j hj => hj⟩
  | cut i b l d nd f x y h1 h2 h3 h4 h6 t1 t2 ih1 ih2 =>
    cases hf : f h with
    | true =>
      have hx := h3.hx h hh hf
      obtain ⟨e, m, k1, k2, k3, k4, k5, k6⟩ := ih1 hx
      exact ⟨e, m, .go i d e nd m f h1 h2 (by rw [if_pos hf]; exact k1), k2, k3, k4.trans (inside_find bs hbs x h3.gx.ck h hx l), Nat.le_trans k5 (insideI_len bs x l), fun j hj => insideI_sub bs x l j (k6 j hj)⟩
    | false =>
      have hy := h3.hy h hh hf
      obtain ⟨e, m, k1, k2, k3, k4, k5, k6⟩ := ih2 hy
      exact ⟨e, m, .go i d e nd m f h1 h2 (by rw [if_neg (by simp [hf])]; exact k1), k2, k3, k4.trans (inside_find bs hbs y h3.gy.ck h hy l), Nat.le_trans k5 (insideI_len bs y l), fun j hj => insideI_sub bs y l j (k6 j hj)⟩
end Go.Proofs.Ytljliopmphaoeaa
