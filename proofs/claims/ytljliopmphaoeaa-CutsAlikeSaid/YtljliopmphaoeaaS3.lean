/- Lists of rules, of headers, of calls as arguments, read as data. -/
import Derived.Test.YtljliopmphaoeaaML
import Derived.Test.YtljliopmphaoeaaMS
import Derived.ReadAgain
import Derived.Deep.Slices
namespace Go.Proofs.Ytljliopmphaoeaa
open Go Go.RowKit Go.Proofs.Ytljliopmphaoeaa.Q Go.ChangeShapes Go.WideShapes
theorem exists_list {α : Type} {P : Nat → α → Prop} : ∀ (n : Nat), (∀ i, i < n → ∃ x, P i x) → ∃ l : List α, l.length = n ∧ ∀ i (hi : i < l.length), P i l[i]
  | 0, _ => ⟨[], rfl, fun i hi => absurd hi (by simp)⟩
  | n + 1, h => by
    obtain ⟨l, h1, h2⟩ := exists_list n (fun i hi => h i (by omega))
    obtain ⟨x, hx⟩ := h n (by omega)
    refine ⟨l ++ [x], by simp [h1], fun i hi => ?_⟩
    by_cases hin : i < l.length
    · rw [List.getElem_append_left hin]; exact h2 i hin
    · have : i = l.length := by simp at hi; omega
      subst this
      rw [List.getElem_append_right (by omega)]
      simpa [h1] using hx
theorem list12 {α : Type} {l : List α} (h : l.length = 12) : ∃ c0 c1 c2 c3 c4 c5 c6 c7 c8 c9 c10 c11, l = [c0, c1, c2, c3, c4, c5, c6, c7, c8, c9, c10, c11] := by
  match l, h with
  | [c0, c1, c2, c3, c4, c5, c6, c7, c8, c9, c10, c11], _ => exact ⟨c0, c1, c2, c3, c4, c5, c6, c7, c8, c9, c10, c11, rfl⟩
theorem list6 {α : Type} {l : List α} (h : l.length = 6) : ∃ c0 c1 c2 c3 c4 c5, l = [c0, c1, c2, c3, c4, c5] := by
  match l, h with
  | [c0, c1, c2, c3, c4, c5], _ => exact ⟨c0, c1, c2, c3, c4, c5, rfl⟩
theorem list21 {α : Type} {l : List α} (h : l.length = 21) : ∃ c0 c1 c2 c3 c4 c5 c6 c7 c8 c9 c10 c11 c12 c13 c14 c15 c16 c17 c18 c19 c20, l = [c0, c1, c2, c3, c4, c5, c6, c7, c8, c9, c10, c11, c12, c13, c14, c15, c16, c17, c18, c19, c20] := by
  match l, h with
  | [c0, c1, c2, c3, c4, c5, c6, c7, c8, c9, c10, c11, c12, c13, c14, c15, c16, c17, c18, c19, c20], _ => exact ⟨c0, c1, c2, c3, c4, c5, c6, c7, c8, c9, c10, c11, c12, c13, c14, c15, c16, c17, c18, c19, c20, rfl⟩
set_option maxRecDepth 100000
section
variable {H : Type} {enc : TypeId × Value → H} {w : World} {base : Nat} {spare : Nat → Bool} {held : Bool}
theorem trod_rul {fuel : Nat} {cs : List Value} {x : DataW H × List MemPlace} (hf : DataW.trod enc Try.prog w base spare held fuel 60 cs = some x) : ∃ r : Rul, cs = rulC r ∧ r.Wf := by
  obtain ⟨xs, n, _, hx, hcl, hlen, hall⟩ := DataW.trod_struct Try.underlying60 hf
  obtain ⟨c0, c1, c2, c3, c4, c5, c6, c7, c8, c9, c10, c11, rfl⟩ := list12 (hcl.trans (show Try.prog.cellsOf 60 = 12 by kernel_rfl))
  obtain ⟨y0, y1, y2, y3, y4, y5, y6, rfl⟩ := list7 (hlen.trans rfl)
  have kp : Try.prog.cellsOf 54 = 2 := by kernel_rfl
  have ks : Try.prog.cellsOf 56 = 2 := by kernel_rfl
  have km : Try.prog.cellsOf 58 = 2 := by kernel_rfl
  obtain ⟨m0, rfl, _, g0⟩ := field_int (i := 0) Try.underlying3 (by kernel_rfl) rfl (hall 0 _ rfl)
  have q1 := hall 1 _ rfl
  have q2 := hall 2 _ rfl
  have q3 := hall 3 _ rfl
  have q4 := hall 4 _ rfl
  have q5 := hall 5 _ rfl
  try simp only [kp, ks, km] at q1
  try simp only [kp, ks, km] at q2
  try simp only [kp, ks, km] at q3
  try simp only [kp, ks, km] at q4
  try simp only [kp, ks, km] at q5
  obtain ⟨m1, m2, rfl, rfl, g1, g2⟩ := field_two Try.underlying54 rfl rfl Try.underlying25 Try.underlying3 (by kernel_rfl) (by kernel_rfl) rfl q1
  obtain ⟨m3, m4, rfl, rfl, g3, g4⟩ := field_two Try.underlying54 rfl rfl Try.underlying25 Try.underlying3 (by kernel_rfl) (by kernel_rfl) rfl q2
  obtain ⟨m5, m6, rfl, rfl, g5, g6⟩ := field_two Try.underlying56 rfl rfl Try.underlying26 Try.underlying26 (by kernel_rfl) (by kernel_rfl) rfl q3
  obtain ⟨m7, m8, rfl, rfl, g7, g8⟩ := field_two Try.underlying56 rfl rfl Try.underlying26 Try.underlying26 (by kernel_rfl) (by kernel_rfl) rfl q4
  obtain ⟨m9, m10, rfl, rfl, g9, g10⟩ := field_two Try.underlying58 rfl rfl Try.underlying5 Try.underlying5 (by kernel_rfl) (by kernel_rfl) rfl q5
  obtain ⟨m11, rfl, _, g11⟩ := field_int (i := 11) Try.underlying22 (by kernel_rfl) rfl (hall 6 _ rfl)
  obtain ⟨a1, rfl, w1⟩ := wf_u32 g1
  obtain ⟨a3, rfl, w3⟩ := wf_u32 g3
  obtain ⟨a5, rfl, w5⟩ := wf_u16 g5
  obtain ⟨a6, rfl, w6⟩ := wf_u16 g6
  obtain ⟨a7, rfl, w7⟩ := wf_u16 g7
  obtain ⟨a8, rfl, w8⟩ := wf_u16 g8
  obtain ⟨a9, rfl, w9⟩ := wf_u8 g9
  obtain ⟨a10, rfl, w10⟩ := wf_u8 g10
  exact ⟨⟨m0, ⟨a1, m2⟩, ⟨a3, m4⟩, ⟨a5, a6⟩, ⟨a7, a8⟩, ⟨a9, a10⟩, m11⟩, rfl, ⟨wf_i64 g0, ⟨w1, wf_i64 g2⟩, ⟨w3, wf_i64 g4⟩, ⟨w5, w6⟩, ⟨w7, w8⟩, ⟨w9, w10⟩, wf_i64 g11⟩⟩
theorem trod_hdr {fuel : Nat} {cs : List Value} {x : DataW H × List MemPlace} (hf : DataW.trod enc Try.prog w base spare held fuel 28 cs = some x) : ∃ h : Hdr, cs = [.int .u32 h.src, .int .u32 h.dst, .int .u16 h.sp, .int .u16 h.dp, .int .u8 h.pr] ∧ h.Wf := by
  obtain ⟨xs, n, _, hx, hcl, hlen, hall⟩ := DataW.trod_struct Try.underlying28 hf
  obtain ⟨c0, c1, c2, c3, c4, rfl⟩ := list5 (hcl.trans (show Try.prog.cellsOf 28 = 5 by kernel_rfl))
  obtain ⟨y0, y1, y2, y3, y4, rfl⟩ := list5 (hlen.trans rfl)
  obtain ⟨m0, rfl, e0, g0⟩ := field_int (i := 0) Try.underlying25 (by kernel_rfl) rfl (hall 0 _ rfl)
  obtain ⟨m1, rfl, e1, g1⟩ := field_int (i := 1) Try.underlying25 (by kernel_rfl) rfl (hall 1 _ rfl)
  obtain ⟨m2, rfl, e2, g2⟩ := field_int (i := 2) Try.underlying26 (by kernel_rfl) rfl (hall 2 _ rfl)
  obtain ⟨m3, rfl, e3, g3⟩ := field_int (i := 3) Try.underlying26 (by kernel_rfl) rfl (hall 3 _ rfl)
  obtain ⟨m4, rfl, e4, g4⟩ := field_int (i := 4) Try.underlying5 (by kernel_rfl) rfl (hall 4 _ rfl)
  obtain ⟨a0, rfl, w0⟩ := wf_u32 g0
  obtain ⟨a1, rfl, w1⟩ := wf_u32 g1
  obtain ⟨a2, rfl, w2⟩ := wf_u16 g2
  obtain ⟨a3, rfl, w3⟩ := wf_u16 g3
  obtain ⟨a4, rfl, w4⟩ := wf_u8 g4
  exact ⟨⟨a0, a1, a2, a3, a4⟩, rfl, ⟨w0, w1, w2, w3, w4⟩⟩
/-- a slice's elements -/
theorem open_elems {P : Program} {t e : TypeId} {c n cap fuel : Nat} {A : Option Addr} {x : DataW H × List MemPlace} (ht : P.underlying t = some (.slice e)) (hc : P.cellsOf e = c) (h0 : 0 < c) (h : DataW.trod enc P w base spare held fuel t [.slice A n cap] = some x) :
    n ≤ cap ∧ cap ≤ 9223372036854775807 ∧ (A = none → cap = 0) ∧ ∀ i, i < n → ∃ (g o : Nat) (cs : List Value) (k : Nat) (y : DataW H × List MemPlace), A = some ⟨g, o, none⟩ ∧ g < w.heap.size ∧ cs.length = c ∧ DataW.trod enc P w base spare held k e cs = some y ∧ ∀ j u, cs[j]? = some u → w.cell? ⟨g, o + i * c + j, none⟩ = some u := by
  rcases DataW.trod_slice ht h with ⟨h1, _⟩ | ⟨a, len, cap', elems, rest, k, _, h1, _, _, h2, h3, h4, h5, _⟩
  · simp only [List.cons.injEq, and_true, Value.slice.injEq] at h1
    obtain ⟨rfl, rfl, rfl⟩ := h1
    exact ⟨by omega, by omega, fun _ => rfl, fun i hi => absurd hi (by omega)⟩
  · simp only [List.cons.injEq, and_true, Value.slice.injEq] at h1
    obtain ⟨rfl, rfl, rfl⟩ := h1
    refine ⟨h2, by unfold maxLen at h3; omega, (fun h => by cases h), fun i hi => ?_⟩
    have h6 := h5 i hi
    rw [List.getElem?_eq_getElem (by omega), hc] at h6
    cases hcs : w.cells? base (a.add (i * c)) c with
    | none => rw [hcs] at h6; cases h6
    | some cs =>
      rw [hcs] at h6
      obtain ⟨_, hl, hcell⟩ := World.cells?_some hcs
      have hget : ∀ j u, cs[j]? = some u → w.cell? (a.add (i * c + j)) = some u := fun j u hu => by
        have hj : j < c := by have := (List.getElem?_eq_some_iff.1 hu).1; omega
        have := hcell j hj
        rw [Deep.add_add] at this
        rw [this]; exact hu
      obtain ⟨g, o, spot⟩ := a
      have hz := hget 0 cs[0] (List.getElem?_eq_getElem (by omega))
      have hspot : spot = none := by
        have h7 := h5 0 (by omega)
        rw [List.getElem?_eq_getElem (by omega), hc] at h7
        cases hcs0 : w.cells? base (Addr.add ⟨g, o, spot⟩ (0 * c)) c with
        | none => rw [hcs0] at h7; cases h7
        | some cs0 =>
          obtain ⟨_, hl0, hcell0⟩ := World.cells?_some hcs0
          have h8 := hcell0 0 h0
          rw [Deep.add_add, List.getElem?_eq_getElem (by omega)] at h8
          simpa [Addr.add] using World.cell?_spot h8
      subst hspot
      refine ⟨g, o, cs, k, elems[i], rfl, ?_, hl, h6, fun j u hu => ?_⟩
      · have := World.block_lt_of_cell? w _ hz
        rw [add_plain] at this
        exact this
      · have := hget j u hu
        rw [add_plain] at this
        rw [Nat.add_assoc]; exact this
theorem open_ruls_trod {fuel n cap : Nat} {A : Option Addr} {x : DataW H × List MemPlace} (h : DataW.trod enc Try.prog w base spare held fuel 46 [.slice A n cap] = some x) : ∃ rs : List Rul, rs.length = n ∧ RulesIn w A cap rs := by
  obtain ⟨h1, h2, h3, h4⟩ := open_elems (c := 12) Try.underlying46 (by kernel_rfl) (by omega) h
  obtain ⟨rs, hl, hrs⟩ := exists_list (P := fun i (r : Rul) => r.Wf ∧ ∃ g o, A = some ⟨g, o, none⟩ ∧ g < w.heap.size ∧ ∀ j u, (rulC r)[j]? = some u → w.cell? ⟨g, o + i * 12 + j, none⟩ = some u) n (fun i hi => by
    obtain ⟨g, o, cs, k, y, e1, e2, e3, e4, e5⟩ := h4 i hi
    obtain ⟨r, rfl, hw⟩ := trod_rul e4
    exact ⟨r, hw, g, o, e1, e2, e5⟩)
  refine ⟨rs, hl, ⟨⟨fun k hk => ?_⟩, fun r hr => ?_, by omega, h2⟩⟩
  · obtain ⟨_, g, o, e1, e2, e3⟩ := hrs k hk
    exact ⟨g, o, e1, e2, fun i u hu => e3 i u (by simpa [rulC] using hu)⟩
  · obtain ⟨k, hk, rfl⟩ := List.mem_iff_getElem.1 hr
    exact (hrs k hk).1
theorem open_hdrs_trod {fuel n cap : Nat} {A : Option Addr} {x : DataW H × List MemPlace} (h : DataW.trod enc Try.prog w base spare held fuel 48 [.slice A n cap] = some x) : ∃ hs : List Hdr, hs.length = n ∧ HdrsIn w A cap hs := by
  obtain ⟨h1, h2, h3, h4⟩ := open_elems (c := 5) Try.underlying48 (by kernel_rfl) (by omega) h
  obtain ⟨hs, hl, hrs⟩ := exists_list (P := fun i (r : Hdr) => r.Wf ∧ ∃ g o, A = some ⟨g, o, none⟩ ∧ g < w.heap.size ∧ ∀ j u, ([.int .u32 r.src, .int .u32 r.dst, .int .u16 r.sp, .int .u16 r.dp, .int .u8 r.pr])[j]? = some u → w.cell? ⟨g, o + i * 5 + j, none⟩ = some u) n (fun i hi => by
    obtain ⟨g, o, cs, k, y, e1, e2, e3, e4, e5⟩ := h4 i hi
    obtain ⟨r, rfl, hw⟩ := trod_hdr e4
    exact ⟨r, hw, g, o, e1, e2, e5⟩)
  refine ⟨hs, hl, ⟨⟨fun k hk => ?_⟩, fun r hr => ?_, by omega⟩⟩
  · obtain ⟨_, g, o, e1, e2, e3⟩ := hrs k hk
    exact ⟨g, o, e1, e2, fun i u hu => e3 i u (by simpa using hu)⟩
  · obtain ⟨k, hk, rfl⟩ := List.mem_iff_getElem.1 hr
    exact (hrs k hk).1
theorem trod_op {fuel : Nat} {cs : List Value} {x : DataW H × List MemPlace} (hf : DataW.trod enc Try.prog w base spare held fuel 75 cs = some x) : ∃ o : OpV, cs = (opC o).toList ∧ o.Wf ∧ RulsAt w o.la o.list := by
  obtain ⟨xs, n, _, hx, hcl, hlen, hall⟩ := DataW.trod_struct Try.underlying75 hf
  obtain ⟨c0, c1, c2, c3, c4, c5, c6, c7, c8, c9, c10, c11, c12, c13, c14, c15, c16, c17, c18, c19, c20, rfl⟩ := list21 (hcl.trans (show Try.prog.cellsOf 75 = 21 by kernel_rfl))
  obtain ⟨y0, y1, y2, y3, y4, y5, rfl⟩ := list6 (hlen.trans rfl)
  have kr : Try.prog.cellsOf 60 = 12 := by kernel_rfl
  have kh : Try.prog.cellsOf 28 = 5 := by kernel_rfl
  have kl : Try.prog.cellsOf 46 = 1 := by kernel_rfl
  obtain ⟨m0, rfl, _, g0⟩ := field_int (i := 0) Try.underlying3 (by kernel_rfl) rfl (hall 0 _ rfl)
  obtain ⟨m1, rfl, _, g1⟩ := field_int (i := 1) Try.underlying3 (by kernel_rfl) rfl (hall 1 _ rfl)
  obtain ⟨m2, rfl, _, g2⟩ := field_int (i := 2) Try.underlying3 (by kernel_rfl) rfl (hall 2 _ rfl)
  have q3 := hall 3 _ rfl
  have q4 := hall 4 _ rfl
  have q5 := hall 5 _ rfl
  try simp only [kr, kh, kl] at q3
  try simp only [kr, kh, kl] at q4
  try simp only [kr, kh, kl] at q5
  obtain ⟨r, hr, hrw⟩ := trod_rul q3
  obtain ⟨h, hh, hhw⟩ := trod_hdr q4
  have q5' : DataW.trod enc Try.prog w base spare held n 46 [c20] = some y5 := q5
  obtain ⟨A, len, cap, rfl⟩ : ∃ A len cap, c20 = .slice A len cap := by
    rcases DataW.trod_slice Try.underlying46 q5' with ⟨h1, _⟩ | ⟨a, len, cap', _, _, _, _, h1, _⟩
    · simp only [List.cons.injEq, and_true] at h1; exact ⟨_, _, _, h1⟩
    · simp only [List.cons.injEq, and_true] at h1; exact ⟨_, _, _, h1⟩
  obtain ⟨rs, rfl, hin⟩ := open_ruls_trod q5'
  have hr' : [c3, c4, c5, c6, c7, c8, c9, c10, c11, c12, c13, c14] = rulC r := hr
  have hh' : [c15, c16, c17, c18, c19] = [.int .u32 h.src, .int .u32 h.dst, .int .u16 h.sp, .int .u16 h.dp, .int .u8 h.pr] := hh
  unfold rulC at hr'
  simp only [List.cons.injEq, and_true] at hr' hh'
  obtain ⟨rfl, rfl, rfl, rfl, rfl, rfl, rfl, rfl, rfl, rfl, rfl, rfl⟩ := hr'
  obtain ⟨rfl, rfl, rfl, rfl, rfl⟩ := hh'
  exact ⟨⟨m0, m1, m2, r, h, A, cap, rs⟩, rfl, ⟨hrw, hhw, hin.wf, hin.le⟩, hin.lst⟩
theorem open_ops_trod {fuel n cap : Nat} {A : Option Addr} {x : DataW H × List MemPlace} (h : DataW.trod enc Try.prog w base spare held fuel 65 [.slice A n cap] = some x) : ∃ os : List OpV, os.length = n ∧ OpsIn w A cap os := by
  obtain ⟨h1, h2, h3, h4⟩ := open_elems (c := 21) Try.underlying65 (by kernel_rfl) (by omega) h
  obtain ⟨os, hl, hrs⟩ := exists_list (P := fun i (o : OpV) => o.Wf ∧ RulsAt w o.la o.list ∧ ∃ g f, A = some ⟨g, f, none⟩ ∧ g < w.heap.size ∧ ∀ j u, (opC o)[j]? = some u → w.cell? ⟨g, f + i * 21 + j, none⟩ = some u) n (fun i hi => by
    obtain ⟨g, o, cs, k, y, e1, e2, e3, e4, e5⟩ := h4 i hi
    obtain ⟨v, rfl, hw, hr⟩ := trod_op e4
    exact ⟨v, hw, hr, g, o, e1, e2, fun j u hu => e5 j u (by simpa using hu)⟩)
  refine ⟨os, hl, ⟨⟨fun k hk => ?_, fun k hk => (hrs k hk).2.1⟩, fun o ho => ?_, by omega⟩⟩
  · obtain ⟨_, _, g, o, e1, e2, e3⟩ := hrs k hk
    exact ⟨g, o, e1, e2, e3⟩
  · obtain ⟨k, hk, rfl⟩ := List.mem_iff_getElem.1 ho
    exact (hrs k hk).1
theorem open_ruls {t : TypeId} {A : Option Addr} {n cap : Nat} {d : DataW H} {p : List MemPlace} (ht : t = 46) (h : DataW.Trod enc Try.prog w base spare held t (.slice A n cap) d p) : ∃ rs : List Rul, rs.length = n ∧ RulesIn w A cap rs := by
  subst ht
  obtain ⟨_, hf⟩ := h
  exact open_ruls_trod hf
theorem open_hdrs {t : TypeId} {A : Option Addr} {n cap : Nat} {d : DataW H} {p : List MemPlace} (ht : t = 48) (h : DataW.Trod enc Try.prog w base spare held t (.slice A n cap) d p) : ∃ hs : List Hdr, hs.length = n ∧ HdrsIn w A cap hs := by
  subst ht
  obtain ⟨_, hf⟩ := h
  exact open_hdrs_trod hf
theorem open_ops {t : TypeId} {A : Option Addr} {n cap : Nat} {d : DataW H} {p : List MemPlace} (ht : t = 65) (h : DataW.Trod enc Try.prog w base spare held t (.slice A n cap) d p) : ∃ os : List OpV, os.length = n ∧ OpsIn w A cap os := by
  subst ht
  obtain ⟨_, hf⟩ := h
  exact open_ops_trod hf
end
theorem kids_all : Kids Try.prog (· < Try.prog.types.size) := kids_rows (by kernel_rfl) (by kernel_rfl)
theorem full_all : ∀ t e, t < Try.prog.types.size → Try.prog.underlying t = some (.slice e) → 0 < Try.prog.cellsOf e := slices_full_of Try.prog (by kernel_rfl)
/-- an argument reads again, where the call wrote none of its memory -/
theorem back_all {H : Type} {enc : TypeId × Value → H} {W W' : World} {t : TypeId} {v : Value} {d : DataW H} {p : List MemPlace} (ht : t < Try.prog.types.size) (h : DataW.Trod enc Try.prog W 0 (fun _ => true) true t v d p) (bel : Below W.heap.size W W') :
    DataW.Trod enc Try.prog W' 0 (fun b => decide (b < W.heap.size)) true t v d p := by
  obtain ⟨n, h⟩ := h
  have hl := DataW.trod_lt _ _ _ _ h
  exact DataW.Trod.respare kids_all full_all ht ⟨n, DataW.trod_carry (w' := W') n _ _ _ h (fun q hq => bel.same (hl q hq))⟩ (fun q hq => decide_eq_true (hl q hq))
end Go.Proofs.Ytljliopmphaoeaa
