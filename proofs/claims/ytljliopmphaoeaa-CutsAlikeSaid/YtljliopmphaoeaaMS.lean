/- A configuration, a header as an argument, read as data. A rule as an argument, read as data. -/
import Derived.Test.YtljliopmphaoeaaL4
import Derived.WalkKit
import Derived.ProofKit
import Derived.OpenShut
import Derived.ChangeOld
import Derived.ChangeReads
namespace Go.Proofs.Ytljliopmphaoeaa
open Go Go.RowKit Go.Proofs.Ytljliopmphaoeaa.Q Go.ChangeShapes Go.WideShapes
theorem wf_u32 {n : Int} (h : (Lit.int .u32 n).wf = true) : ∃ m : Nat, n = m ∧ m < 4294967296 := by
  simp [Lit.wf, IntKind.min, IntKind.max, IntKind.signed, IntKind.bits] at h
  exact ⟨n.toNat, by omega, by omega⟩
theorem wf_u16 {n : Int} (h : (Lit.int .u16 n).wf = true) : ∃ m : Nat, n = m ∧ m < 65536 := by
  simp [Lit.wf, IntKind.min, IntKind.max, IntKind.signed, IntKind.bits] at h
  exact ⟨n.toNat, by omega, by omega⟩
theorem wf_u8 {n : Int} (h : (Lit.int .u8 n).wf = true) : ∃ m : Nat, n = m ∧ m < 256 := by
  simp [Lit.wf, IntKind.min, IntKind.max, IntKind.signed, IntKind.bits] at h
  exact ⟨n.toNat, by omega, by omega⟩
theorem array7 {α : Type} {cs : Array α} (h : cs.size = 7) : ∃ c0 c1 c2 c3 c4 c5 c6, cs = #[c0, c1, c2, c3, c4, c5, c6] := by
  obtain ⟨l⟩ := cs
  match l, h with
  | [c0, c1, c2, c3, c4, c5, c6], _ => exact ⟨c0, c1, c2, c3, c4, c5, c6, rfl⟩
theorem array5 {α : Type} {cs : Array α} (h : cs.size = 5) : ∃ c0 c1 c2 c3 c4, cs = #[c0, c1, c2, c3, c4] := by
  obtain ⟨l⟩ := cs
  match l, h with
  | [c0, c1, c2, c3, c4], _ => exact ⟨c0, c1, c2, c3, c4, rfl⟩
theorem list7 {α : Type} {l : List α} (h : l.length = 7) : ∃ c0 c1 c2 c3 c4 c5 c6, l = [c0, c1, c2, c3, c4, c5, c6] := by
  match l, h with
  | [c0, c1, c2, c3, c4, c5, c6], _ => exact ⟨c0, c1, c2, c3, c4, c5, c6, rfl⟩
theorem list5 {α : Type} {l : List α} (h : l.length = 5) : ∃ c0 c1 c2 c3 c4, l = [c0, c1, c2, c3, c4] := by
  match l, h with
  | [c0, c1, c2, c3, c4], _ => exact ⟨c0, c1, c2, c3, c4, rfl⟩
set_option maxRecDepth 100000
section
variable {H : Type} {enc : TypeId × Value → H} {w w' : World} {base : Nat} {spare : Nat → Bool} {held : Bool}
def isInt (P : Program) (t : TypeId) : Bool := match P.underlying t with | some (.int _) => true | _ => false
theorem mapM_of {α β : Type} (g : α → Option β) : ∀ (l : List α) (xs : List β), xs.length = l.length → (∀ (i : Nat) (a : α), l[i]? = some a → g a = xs[i]?) → l.mapM g = some xs
  | [], [], _, _ => rfl
  | a :: l, x :: xs, hl, h => by
    have h0 := h 0 a rfl
    have ih := mapM_of g l xs (by simpa using hl) (fun i b hb => by simpa using h (i + 1) b (by simpa using hb))
    rw [List.mapM_cons, h0, ih]
    rfl
/-- a struct of numbers reads so everywhere -/
theorem ints_again {P : Program} {t : TypeId} {fs : Array Field} {v : Value} {d : DataW H} {p : List MemPlace} (ht : P.underlying t = some (.struct fs)) (hint : fs.all (fun f => isInt P f.type) = true) (h : DataW.Trod enc P w base spare held t v d p) :
    ∀ (w' : World) (base' : Nat) (spare' : Nat → Bool) (held' : Bool), DataW.Trod enc P w' base' spare' held' t v d p := by
  intro w' base' spare' held'
  obtain ⟨fuel, hf⟩ := h
  obtain ⟨xs, n, rfl, hx, hl, hlen, hall⟩ := DataW.trod_struct ht hf
  refine ⟨n + 1, ?_⟩
  rw [hx]
  refine trod_struct_mk ht hl (mapM_of _ _ _ (by simpa using hlen) (fun i f hi => ?_))
  have hi' : fs[i]? = some f := by simpa using hi
  have hI : isInt P f.type = true := by
    rw [Array.all_eq_true] at hint
    obtain ⟨hlt, he⟩ := Array.getElem?_eq_some_iff.1 hi'
    rw [← he]
    exact hint i hlt
  have hiw := hall i f hi'
  rw [← hiw]
  unfold isInt at hI
  cases hu : P.underlying f.type with
  | none => rw [hu] at hI; cases hI
  | some ty =>
    rw [hu] at hI
    cases ty with
    | int k =>
      obtain ⟨hlt, _⟩ := Array.getElem?_eq_some_iff.1 hi'
      have hsome : ∃ y, xs[i]? = some y := ⟨_, List.getElem?_eq_getElem (by omega)⟩
      obtain ⟨y, hy⟩ := hsome
      rw [hy] at hiw
      rw [hiw]
      obtain ⟨m, h1, h2, h3⟩ := DataW.trod_int hu hiw
      rw [h1, h2]
      cases n with
      | zero => simp [DataW.trod] at hiw
      | succ n => exact trod_int_mk n hu h3
    | _ => cases hI
theorem field_int {P : Program} {t : TypeId} {k : IntKind} {n i : Nat} {L : List Value} {c : Value} {y : DataW H × List MemPlace} (ht : P.underlying t = some (.int k)) (hc : P.cellsOf t = 1) (hi : L[i]? = some c)
    (h : DataW.trod enc P w base spare held n t ((L.drop i).take (P.cellsOf t)) = some y) : ∃ m, c = .int k m ∧ y.2 = [] ∧ (Lit.int k m).wf = true := by
  have e : (L.drop i).take 1 = [c] := by
    obtain ⟨hl, rfl⟩ := List.getElem?_eq_some_iff.1 hi
    rw [List.drop_eq_getElem_cons hl]
    rfl
  rw [hc, e] at h
  obtain ⟨m, h1, h2, h3⟩ := DataW.trod_int ht h
  exact ⟨m, by simpa using h1, by rw [h2], h3⟩
theorem open_cfg {r : Reach} {b0 : Nat} {v : Value} {d : DataW H} {p : List MemPlace} (hv : Value.okWide Try.prog w r b0 24 v) (h : DataW.Trod enc Try.prog w base spare held 24 v d p) : ∃ c : Cfg, v = .agg #[.int .i64 c.max, .int .i64 c.dflt, .int .i64 c.prune, .int .i64 c.grid, .int .i64 c.tuple, .int .i64 c.binth, .int .i64 c.depth] ∧ p = [] ∧ ∀ (w' : World) (base' : Nat) (spare' : Nat → Bool) (held' : Bool), DataW.Trod enc Try.prog w' base' spare' held' 24 v d [] := by
  have hag := ints_again Try.underlying24 (by kernel_rfl) h
  obtain ⟨cs, rfl, hsz⟩ := okWide_struct Try.underlying24 hv
  obtain ⟨c0, c1, c2, c3, c4, c5, c6, rfl⟩ := array7 (hsz.trans (show Try.prog.cellsOf 24 = 7 by kernel_rfl))
  obtain ⟨fuel, hf⟩ := h
  obtain ⟨xs, n, _, hx, _, hlen, hall⟩ := DataW.trod_struct Try.underlying24 hf
  obtain ⟨y0, y1, y2, y3, y4, y5, y6, rfl⟩ := list7 (hlen.trans rfl)
  obtain ⟨m0, rfl, e0, g0⟩ := field_int (i := 0) Try.underlying3 (by kernel_rfl) rfl (hall 0 _ rfl)
  obtain ⟨m1, rfl, e1, g1⟩ := field_int (i := 1) Try.underlying22 (by kernel_rfl) rfl (hall 1 _ rfl)
  obtain ⟨m2, rfl, e2, g2⟩ := field_int (i := 2) Try.underlying3 (by kernel_rfl) rfl (hall 2 _ rfl)
  obtain ⟨m3, rfl, e3, g3⟩ := field_int (i := 3) Try.underlying3 (by kernel_rfl) rfl (hall 3 _ rfl)
  obtain ⟨m4, rfl, e4, g4⟩ := field_int (i := 4) Try.underlying3 (by kernel_rfl) rfl (hall 4 _ rfl)
  obtain ⟨m5, rfl, e5, g5⟩ := field_int (i := 5) Try.underlying3 (by kernel_rfl) rfl (hall 5 _ rfl)
  obtain ⟨m6, rfl, e6, g6⟩ := field_int (i := 6) Try.underlying3 (by kernel_rfl) rfl (hall 6 _ rfl)
  have hp : p = [] := by
    have := congrArg Prod.snd hx
    simpa [e0, e1, e2, e3, e4, e5, e6] using this
  exact ⟨⟨m0, m1, m2, m3, m4, m5, m6⟩, rfl, hp, by rw [← hp]; exact hag⟩
theorem open_hdr {r : Reach} {b0 : Nat} {v : Value} {d : DataW H} {p : List MemPlace} (hv : Value.okWide Try.prog w r b0 28 v) (h : DataW.Trod enc Try.prog w base spare held 28 v d p) : ∃ h : Hdr, v = .agg #[.int .u32 h.src, .int .u32 h.dst, .int .u16 h.sp, .int .u16 h.dp, .int .u8 h.pr] ∧ h.Wf ∧ p = [] ∧ ∀ (w' : World) (base' : Nat) (spare' : Nat → Bool) (held' : Bool), DataW.Trod enc Try.prog w' base' spare' held' 28 v d [] := by
  have hag := ints_again Try.underlying28 (by kernel_rfl) h
  obtain ⟨cs, rfl, hsz⟩ := okWide_struct Try.underlying28 hv
  obtain ⟨c0, c1, c2, c3, c4, rfl⟩ := array5 (hsz.trans (show Try.prog.cellsOf 28 = 5 by kernel_rfl))
  obtain ⟨fuel, hf⟩ := h
  obtain ⟨xs, n, _, hx, _, hlen, hall⟩ := DataW.trod_struct Try.underlying28 hf
  obtain ⟨y0, y1, y2, y3, y4, rfl⟩ := list5 (hlen.trans rfl)
  obtain ⟨m0, rfl, e0, g0⟩ := field_int (i := 0) Try.underlying25 (by kernel_rfl) rfl (hall 0 _ rfl)
  obtain ⟨m1, rfl, e1, g1⟩ := field_int (i := 1) Try.underlying25 (by kernel_rfl) rfl (hall 1 _ rfl)
  obtain ⟨m2, rfl, e2, g2⟩ := field_int (i := 2) Try.underlying26 (by kernel_rfl) rfl (hall 2 _ rfl)
  obtain ⟨m3, rfl, e3, g3⟩ := field_int (i := 3) Try.underlying26 (by kernel_rfl) rfl (hall 3 _ rfl)
  obtain ⟨m4, rfl, e4, g4⟩ := field_int (i := 4) Try.underlying5 (by kernel_rfl) rfl (hall 4 _ rfl)
  have hp : p = [] := by
    have := congrArg Prod.snd hx
    simpa [e0, e1, e2, e3, e4] using this
  obtain ⟨a0, rfl, w0⟩ := wf_u32 g0
  obtain ⟨a1, rfl, w1⟩ := wf_u32 g1
  obtain ⟨a2, rfl, w2⟩ := wf_u16 g2
  obtain ⟨a3, rfl, w3⟩ := wf_u16 g3
  obtain ⟨a4, rfl, w4⟩ := wf_u8 g4
  exact ⟨⟨a0, a1, a2, a3, a4⟩, rfl, ⟨w0, w1, w2, w3, w4⟩, hp, by rw [← hp]; exact hag⟩
end
end Go.Proofs.Ytljliopmphaoeaa

namespace Go.Proofs.Ytljliopmphaoeaa
open Go Go.RowKit Go.Proofs.Ytljliopmphaoeaa.Q Go.ChangeShapes Go.WideShapes
/-- numbers, structs of numbers, structs of such -/
def numT (P : Program) : Nat → TypeId → Bool
  | 0, _ => false
  | k + 1, t => match P.underlying t with
    | some (.int _) => true
    | some (.struct fs) => fs.all (fun f => numT P k f.type)
    | _ => false
theorem wf_i64 {n : Int} (h : (Lit.int .i64 n).wf = true) : I64 n := by
  simp [Lit.wf, IntKind.min, IntKind.max, IntKind.signed, IntKind.bits] at h
  exact ⟨by omega, by omega⟩
theorem array12 {α : Type} {cs : Array α} (h : cs.size = 12) : ∃ c0 c1 c2 c3 c4 c5 c6 c7 c8 c9 c10 c11, cs = #[c0, c1, c2, c3, c4, c5, c6, c7, c8, c9, c10, c11] := by
  obtain ⟨l⟩ := cs
  match l, h with
  | [c0, c1, c2, c3, c4, c5, c6, c7, c8, c9, c10, c11], _ => exact ⟨c0, c1, c2, c3, c4, c5, c6, c7, c8, c9, c10, c11, rfl⟩
theorem list2 {α : Type} {l : List α} (h : l.length = 2) : ∃ c0 c1, l = [c0, c1] := by
  match l, h with
  | [c0, c1], _ => exact ⟨c0, c1, rfl⟩
set_option maxRecDepth 100000
section
variable {H : Type} {enc : TypeId × Value → H} {w w' : World} {base : Nat} {spare : Nat → Bool} {held : Bool}
theorem num_again {P : Program} : ∀ (k : Nat) (t : TypeId), numT P k t = true → ∀ (n : Nat) (cs : List Value) (y : DataW H × List MemPlace), DataW.trod enc P w base spare held n t cs = some y →
    y.2 = [] ∧ ∀ (w' : World) (base' : Nat) (spare' : Nat → Bool) (held' : Bool), DataW.trod enc P w' base' spare' held' n t cs = some y
  | 0, _, hk => by cases hk
  | k + 1, t, hk => by
    intro n cs y h
    unfold numT at hk
    cases hu : P.underlying t with
    | none => rw [hu] at hk; cases hk
    | some ty =>
      rw [hu] at hk
      cases ty with
      | int kd =>
        obtain ⟨m, h1, h2, h3⟩ := DataW.trod_int hu h
        refine ⟨by rw [h2], fun w' base' spare' held' => ?_⟩
        rw [h1, h2]
        cases n with
        | zero => simp [DataW.trod] at h
        | succ n => exact trod_int_mk n hu h3
      | struct fs =>
        obtain ⟨xs, n', rfl, hx, hl, hlen, hall⟩ := DataW.trod_struct hu h
        have hf : ∀ (i : Nat) (f : Field), fs[i]? = some f → ∃ z, xs[i]? = some z ∧ z.2 = [] ∧ ∀ (w' : World) (base' : Nat) (spare' : Nat → Bool) (held' : Bool), DataW.trod enc P w' base' spare' held' n' f.type ((cs.drop f.offset).take (P.cellsOf f.type)) = some z := fun i f hi => by
          obtain ⟨hlt, he⟩ := Array.getElem?_eq_some_iff.1 hi
          have hn : numT P k f.type = true := by
            simp only at hk
            rw [Array.all_eq_true] at hk
            rw [← he]
            exact hk i hlt
          have hz : ∃ z, xs[i]? = some z := ⟨_, List.getElem?_eq_getElem (by omega)⟩
          obtain ⟨z, hz⟩ := hz
          have hi2 := hall i f hi
          rw [hz] at hi2
          obtain ⟨g1, g2⟩ := num_again k f.type hn n' _ z hi2
          exact ⟨z, hz, g1, g2⟩
        refine ⟨?_, fun w' base' spare' held' => ?_⟩
        · rw [hx]
          simp only [List.flatMap_eq_nil_iff]
          intro z hz
          obtain ⟨i, hi, rfl⟩ := List.mem_iff_getElem.1 hz
          obtain ⟨z', e1, e2, _⟩ := hf i fs[i] (Array.getElem?_eq_getElem (by omega))
          rw [List.getElem?_eq_getElem hi] at e1
          injection e1 with e1
          rw [e1]; exact e2
        · rw [hx]
          refine trod_struct_mk hu hl (mapM_of _ _ _ (by simpa using hlen) (fun i f hi => ?_))
          obtain ⟨z, e1, _, e3⟩ := hf i f (by simpa using hi)
          rw [e1]
          exact e3 w' base' spare' held'
      | _ => cases hk
theorem field_two {P : Program} {t : TypeId} {f0 f1 : Field} {k0 k1 : IntKind} {n : Nat} {L : List Value} {c0 c1 : Value} {y : DataW H × List MemPlace} (ht : P.underlying t = some (.struct #[f0, f1])) (o0 : f0.offset = 0) (o1 : f1.offset = 1)
    (u0 : P.underlying f0.type = some (.int k0)) (u1 : P.underlying f1.type = some (.int k1)) (z0 : P.cellsOf f0.type = 1) (z1 : P.cellsOf f1.type = 1) (hL : L = [c0, c1]) (h : DataW.trod enc P w base spare held n t L = some y) :
    ∃ m0 m1, c0 = .int k0 m0 ∧ c1 = .int k1 m1 ∧ (Lit.int k0 m0).wf = true ∧ (Lit.int k1 m1).wf = true := by
  subst hL
  obtain ⟨xs, n', _, hx, _, hlen, hall⟩ := DataW.trod_struct ht h
  obtain ⟨y0, y1, rfl⟩ := list2 (hlen.trans rfl)
  have h0 := hall 0 f0 rfl
  have h1 := hall 1 f1 rfl
  rw [o0] at h0
  rw [o1] at h1
  obtain ⟨m0, e0, _, g0⟩ := field_int (i := 0) (c := c0) u0 z0 rfl h0
  obtain ⟨m1, e1, _, g1⟩ := field_int (i := 1) (c := c1) u1 z1 rfl h1
  exact ⟨m0, m1, e0, e1, g0, g1⟩
theorem open_rul {r : Reach} {b0 : Nat} {v : Value} {d : DataW H} {p : List MemPlace} (hv : Value.okWide Try.prog w r b0 60 v) (h : DataW.Trod enc Try.prog w base spare held 60 v d p) : ∃ x : Rul, v = .agg #[.int .i64 x.id, .int .u32 x.src.a, .int .i64 x.src.n, .int .u32 x.dst.a, .int .i64 x.dst.n, .int .u16 x.sp.lo, .int .u16 x.sp.hi, .int .u16 x.dp.lo, .int .u16 x.dp.hi, .int .u8 x.pr.v, .int .u8 x.pr.c, .int .i64 x.act] ∧ x.Wf ∧ p = [] ∧ ∀ (w' : World) (base' : Nat) (spare' : Nat → Bool) (held' : Bool), DataW.Trod enc Try.prog w' base' spare' held' 60 v d [] := by
  obtain ⟨cs, rfl, hsz⟩ := okWide_struct Try.underlying60 hv
  obtain ⟨c0, c1, c2, c3, c4, c5, c6, c7, c8, c9, c10, c11, rfl⟩ := array12 (hsz.trans (show Try.prog.cellsOf 60 = 12 by kernel_rfl))
  obtain ⟨fuel, hf⟩ := h
  obtain ⟨hp, hag⟩ := num_again 4 60 (by kernel_rfl) fuel _ _ hf
  simp only at hp
  obtain ⟨xs, n, _, hx, _, hlen, hall⟩ := DataW.trod_struct Try.underlying60 hf
  obtain ⟨y0, y1, y2, y3, y4, y5, y6, rfl⟩ := list7 (hlen.trans rfl)
  have kp : Try.prog.cellsOf 54 = 2 := by kernel_rfl
  have ks : Try.prog.cellsOf 56 = 2 := by kernel_rfl
  have km : Try.prog.cellsOf 58 = 2 := by kernel_rfl
  obtain ⟨m0, rfl, _, g0⟩ := field_int (i := 0) Try.underlying3 (by kernel_rfl) rfl (hall 0 _ rfl)
  have q1 := hall 1 _ rfl
  have q2 := hall 2 _ rfl
  have q3 := hall 3 _ rfl
  have q4 := hall 4 _ rfl
  have q5 := hall 5 _ rfl
  try simp only [kp, ks, km] at q1
  try simp only [kp, ks, km] at q2
  try simp only [kp, ks, km] at q3
  try simp only [kp, ks, km] at q4
  try simp only [kp, ks, km] at q5
  obtain ⟨m1, m2, rfl, rfl, g1, g2⟩ := field_two Try.underlying54 rfl rfl Try.underlying25 Try.underlying3 (by kernel_rfl) (by kernel_rfl) rfl q1
  obtain ⟨m3, m4, rfl, rfl, g3, g4⟩ := field_two Try.underlying54 rfl rfl Try.underlying25 Try.underlying3 (by kernel_rfl) (by kernel_rfl) rfl q2
  obtain ⟨m5, m6, rfl, rfl, g5, g6⟩ := field_two Try.underlying56 rfl rfl Try.underlying26 Try.underlying26 (by kernel_rfl) (by kernel_rfl) rfl q3
  obtain ⟨m7, m8, rfl, rfl, g7, g8⟩ := field_two Try.underlying56 rfl rfl Try.underlying26 Try.underlying26 (by kernel_rfl) (by kernel_rfl) rfl q4
  obtain ⟨m9, m10, rfl, rfl, g9, g10⟩ := field_two Try.underlying58 rfl rfl Try.underlying5 Try.underlying5 (by kernel_rfl) (by kernel_rfl) rfl q5
  obtain ⟨m11, rfl, _, g11⟩ := field_int (i := 11) Try.underlying22 (by kernel_rfl) rfl (hall 6 _ rfl)
  obtain ⟨a1, rfl, w1⟩ := wf_u32 g1
  obtain ⟨a3, rfl, w3⟩ := wf_u32 g3
  obtain ⟨a5, rfl, w5⟩ := wf_u16 g5
  obtain ⟨a6, rfl, w6⟩ := wf_u16 g6
  obtain ⟨a7, rfl, w7⟩ := wf_u16 g7
  obtain ⟨a8, rfl, w8⟩ := wf_u16 g8
  obtain ⟨a9, rfl, w9⟩ := wf_u8 g9
  obtain ⟨a10, rfl, w10⟩ := wf_u8 g10
  refine ⟨⟨m0, ⟨a1, m2⟩, ⟨a3, m4⟩, ⟨a5, a6⟩, ⟨a7, a8⟩, ⟨a9, a10⟩, m11⟩, rfl, ⟨wf_i64 g0, ⟨w1, wf_i64 g2⟩, ⟨w3, wf_i64 g4⟩, ⟨w5, w6⟩, ⟨w7, w8⟩, ⟨w9, w10⟩, wf_i64 g11⟩, hp, fun w' base' spare' held' => ?_⟩
  rw [← hp]
  exact ⟨fuel, hag w' base' spare' held'⟩
end
end Go.Proofs.Ytljliopmphaoeaa
