/- Rules that were put in one by one: the plain law. CutsAlike: what is kept, and pick. -/
import Derived.Test.YtljliopmphaoeaaA6
import Derived.Test.YtljliopmphaoeaaL9
namespace Go.Proofs.Ytljliopmphaoeaa
open Go Go.RowKit Go.Proofs.Ytljliopmphaoeaa.Q
/-- those of a list that are in -/
def sel : List Rul → List Bool → List Rul
  | r :: l, b :: bs => if b then r :: sel l bs else sel l bs
  | _, _ => []
def cnt (bs : List Bool) : Nat := bs.count true
theorem cnt_cons (b : Bool) (bs : List Bool) : cnt (b :: bs) = (if b then 1 else 0) + cnt bs := by
  unfold cnt; cases b <;> simp <;> omega
theorem cnt_le (bs : List Bool) : cnt bs ≤ bs.length := List.count_le_length
theorem sel_len : ∀ (l : List Rul) (bs : List Bool), l.length = bs.length → (sel l bs).length = cnt bs
  | [], [], _ => rfl
  | r :: l, b :: bs, h => by
    have ih := sel_len l bs (by simpa using h)
    rw [cnt_cons]
    unfold sel
    cases b <;> simp [ih] <;> omega
theorem sel_none (l : List Rul) : ∀ n, sel l (List.replicate n false) = [] := by
  induction l with
  | nil => intro n; cases n <;> rfl
  | cons r l ih =>
    intro n
    cases n with
    | zero => rfl
    | succ n => rw [List.replicate_succ]; unfold sel; simpa using ih n
theorem cnt_none : ∀ n : Nat, cnt (List.replicate n false) = 0
  | 0 => rfl
  | n + 1 => by rw [List.replicate_succ, cnt_cons, cnt_none n]; rfl
theorem sel_all : ∀ (l : List Rul) (bs : List Bool), l.length = bs.length → cnt bs = bs.length → sel l bs = l
  | [], [], _, _ => rfl
  | r :: l, b :: bs, h, hc => by
    rw [cnt_cons] at hc
    have hle := cnt_le bs
    have hl : (b :: bs).length = bs.length + 1 := rfl
    rw [hl] at hc
    cases b with
    | true => unfold sel; rw [if_pos rfl, sel_all l bs (by simpa using h) (by rw [if_pos rfl] at hc; omega)]
    | false => rw [if_neg (by decide)] at hc; omega
theorem sel_mem : ∀ (l : List Rul) (bs : List Bool) (x : Rul), x ∈ sel l bs → ∃ j, ∃ (h : j < l.length) (h2 : j < bs.length), bs[j] = true ∧ l[j] = x
  | [], _, x, h => by unfold sel at h; cases h
  | r :: l, [], x, h => by unfold sel at h; cases h
  | r :: l, b :: bs, x, h => by
    unfold sel at h
    cases b with
    | true =>
      simp only [if_true] at h
      rcases List.mem_cons.1 h with rfl | h
      · exact ⟨0, by simp, by simp, rfl, rfl⟩
      · obtain ⟨j, h1, h2, h3, h4⟩ := sel_mem l bs x h
        exact ⟨j + 1, by simp; omega, by simp; omega, by simpa using h3, by simpa using h4⟩
    | false =>
      simp only [Bool.false_eq_true, if_false] at h
      obtain ⟨j, h1, h2, h3, h4⟩ := sel_mem l bs x h
      exact ⟨j + 1, by simp; omega, by simp; omega, by simpa using h3, by simpa using h4⟩
theorem sel_put : ∀ (l : List Rul) (bs : List Bool) (k : Nat) (h : k < l.length) (hb : k < bs.length), bs[k] = false →
    sel l (bs.set k true) = (sel l bs).take (cnt (bs.take k)) ++ l[k] :: (sel l bs).drop (cnt (bs.take k)) ∧ cnt (bs.take k) ≤ (sel l bs).length ∧ cnt (bs.set k true) = cnt bs + 1
  | r :: l, b :: bs, 0, h, hb, hf => by
    simp only [List.getElem_cons_zero] at hf
    subst hf
    rw [List.set_cons_zero, List.take_zero]
    refine ⟨?_, by simp [cnt], by rw [cnt_cons, cnt_cons]; simp; omega⟩
    simp [sel, cnt]
  | r :: l, b :: bs, k + 1, h, hb, hf => by
    obtain ⟨h1, h2, h3⟩ := sel_put l bs k (by simpa using h) (by simpa using hb) (by simpa using hf)
    rw [List.set_cons_succ, List.take_succ_cons, cnt_cons, cnt_cons, cnt_cons, h3, List.getElem_cons_succ]
    unfold sel
    cases b with
    | true =>
      simp only [if_true]
      rw [h1, show 1 + cnt (bs.take k) = cnt (bs.take k) + 1 by omega, List.take_succ_cons, List.drop_succ_cons]
      exact ⟨rfl, by simp; omega, by omega⟩
    | false =>
      simp only [Bool.false_eq_true, if_false, Nat.zero_add]
      exact ⟨h1, h2, trivial⟩
theorem cnt_take (bs : List Bool) (m : Nat) (h : m < bs.length) : cnt (bs.take (m + 1)) = cnt (bs.take m) + (if bs[m] then 1 else 0) := by
  rw [List.take_add_one, List.getElem?_eq_getElem h]
  unfold cnt
  rw [List.count_append]
  cases bs[m] <;> simp
theorem some_out (bs : List Bool) (h : cnt bs < bs.length) : ∃ f, ∃ (hf : f < bs.length), bs[f] = false := by
  induction bs with
  | nil => simp at h
  | cons b bs ih =>
    cases b with
    | false => exact ⟨0, by simp, rfl⟩
    | true =>
      rw [cnt_cons] at h
      obtain ⟨f, hf, h1⟩ := ih (by simp at h; omega)
      exact ⟨f + 1, by simp; omega, by simpa using h1⟩
/-- a list that may be set has rules of different ids -/
theorem set_ids {c : Cfg} {l : List Rul} (h : setI c l = 0) (j k : Nat) (hj : j < k) (hk : k < l.length) : l[j].id ≠ l[k].id := by
  intro he
  have h1 := setI_all c l h k hk
  rw [stepI_at c l k hk] at h1
  have hf : findI (l.take k) l[k].id = -1 ∨ ∃ m : Nat, m < (l.take k).length ∧ findI (l.take k) l[k].id = m := findI_cases _ _
  by_cases ht : takesI (l.take k) l[k] ≠ 0
  · rw [if_pos ht] at h1; exact ht h1
  · rcases takesI_cases (l.take k) l[k] with ⟨a1, a2⟩ | ⟨a1, a2, a3⟩ | ⟨a1, a2, a3⟩
    · rw [a2] at ht; exact ht a1
    · rw [a3] at ht; exact ht (by decide)
    · rcases hf with hf | ⟨m, hm, hf⟩
      · unfold findI at hf
        cases hx : (l.take k).findIdx? (fun r => r.id == l[k].id) with
        | some m => rw [hx] at hf; simp only at hf; omega
        | none =>
          rw [List.findIdx?_eq_none_iff] at hx
          have := hx l[j] (by
            rw [List.mem_take_iff_getElem]
            exact ⟨j, by omega, rfl⟩)
          simp [he] at this
      · omega
theorem set_ck {c : Cfg} {l : List Rul} (h : setI c l = 0) (k : Nat) (hk : k < l.length) : l[k].ck.1 = 0 := by
  have h1 := setI_all c l h k hk
  rw [stepI_at c l k hk] at h1
  by_cases ht : takesI (l.take k) l[k] ≠ 0
  · rw [if_pos ht] at h1; exact absurd h1 ht
  · unfold takesI at ht
    by_cases hc : l[k].ck.1 ≠ 0
    · rw [if_pos hc] at ht; exact absurd hc ht
    · omega
theorem set_diff {c : Cfg} {l : List Rul} (h : setI c l = 0) (j k : Nat) (hj : j < l.length) (hk : k < l.length) (hne : j ≠ k) : l[j].id ≠ l[k].id := by
  rcases Nat.lt_or_gt_of_ne hne with h1 | h1
  · exact set_ids h j k h1 hk
  · exact fun e => set_ids h k j h1 hj e.symm
/-- a rule that is not in yet may be put in -/
theorem put_ok {c : Cfg} {l : List Rul} (h : setI c l = 0) (hm : c.max = 64) (hlen : l.length ≤ 64) (bs : List Bool) (hb : l.length = bs.length) (k : Nat) (hk : k < l.length) (hk2 : k < bs.length) (hf : bs[k] = false) (hc : cnt bs < bs.length) :
    insI c (sel l bs) ((cnt (bs.take k) : Nat) : Int) l[k] = 0 := by
  obtain ⟨_, h2, _⟩ := sel_put l bs k hk hk2 hf
  have hl := sel_len l bs hb
  have hfind : findI (sel l bs) l[k].id = -1 := findI_none _ _ (fun j hj => by
    obtain ⟨q, q1, q2, q3, q4⟩ := sel_mem l bs _ (List.getElem_mem hj)
    rw [← q4]
    refine set_diff h q k q1 hk (fun e => ?_)
    subst e
    rw [hf] at q3; cases q3)
  have ht : takesI (sel l bs) l[k] = 0 := by
    unfold takesI
    rw [if_neg (by rw [set_ck h k hk]; decide), hfind, if_neg (by decide)]
  have hbt : btw ((cnt (bs.take k) : Nat) : Int) 0 (sel l bs).length = true := by
    unfold btw; simp; omega
  unfold insI
  rw [if_neg (by rw [ht]; decide), if_neg (by rw [hbt]; decide), if_neg (by omega)]
theorem put_list {c : Cfg} {l : List Rul} (bs : List Bool) (k : Nat) (hk : k < l.length) (hk2 : k < bs.length) (hf : bs[k] = false) (hi : insI c (sel l bs) ((cnt (bs.take k) : Nat) : Int) l[k] = 0) :
    insE c (fun _ => 0) (sel l bs) ((cnt (bs.take k) : Nat) : Int) l[k] = 0 ∧ insL c (fun _ => 0) (sel l bs) ((cnt (bs.take k) : Nat) : Int) l[k] = sel l (bs.set k true) := by
  have e := insE_zero c (sel l bs) ((cnt (bs.take k) : Nat) : Int) l[k]
  refine ⟨by rw [e, hi], ?_⟩
  unfold insL
  rw [e, if_pos hi, Int.toNat_natCast, (sel_put l bs k hk hk2 hf).1]
/-- another rule that was put in goes again -/
theorem other_gone (c : Cfg) (rs : List Rul) (r : Rul) (h : insE c (fun _ => 0) rs 0 r = 0) : delE (insL c (fun _ => 0) rs 0 r) r.id = 0 ∧ delL (insL c (fun _ => 0) rs 0 r) r.id = rs := by
  have e : insL c (fun _ => 0) rs 0 r = r :: rs := by unfold insL; rw [if_pos h]; rfl
  have hf : findI (r :: rs) r.id = 0 := findI_at _ _ 0 (by simp) rfl (fun j _ hj => by omega)
  rw [e, delE, delL, hf]
  simp
theorem other_no (c : Cfg) (rs : List Rul) (p : Int) (r : Rul) (h : insE c (fun _ => 0) rs p r ≠ 0) : insL c (fun _ => 0) rs p r = rs := by unfold insL; rw [if_neg h]
/-- how far it is to a place that is free -/
def away (n f k : Nat) : Nat := if k ≤ f then f - k else f + n - k
theorem away_next {n f k : Nat} (hf : f < n) (hk : k < n) (hne : k ≠ f) : (k + 1) % n < n ∧ away n f ((k + 1) % n) < away n f k := by
  by_cases h : k + 1 < n
  · rw [Nat.mod_eq_of_lt h]; unfold away; refine ⟨h, ?_⟩; split <;> split <;> omega
  · have : k + 1 = n := by omega
    rw [this, Nat.mod_self]; unfold away; refine ⟨by omega, ?_⟩; split <;> split <;> omega
end Go.Proofs.Ytljliopmphaoeaa

namespace Go.Proofs.Ytljliopmphaoeaa
open Go Go.RowKit Go.Proofs.Ytljliopmphaoeaa.Q
structure IntsIn (W : World) (A : Option Addr) (cap : Nat) (ns : List Int) : Prop where
  at' : ∀ k (h : k < ns.length), ∃ g o, A = some ⟨g, o, none⟩ ∧ g < W.heap.size ∧ W.cell? ⟨g, o + k, none⟩ = some (.int .i64 ns[k])
  wf : ∀ x ∈ ns, I64 x
  max : ns.length ≤ 9223372036854775807
def BoolsAt (W : World) (B : Nat) (bs : List Bool) : Prop := Blk W B (bs.map Value.bool).toArray 4
theorem BoolsAt.cell {W : World} {B : Nat} {bs : List Bool} (h : BoolsAt W B bs) (k : Nat) (hk : k < bs.length) : W.cell? ⟨B, k, none⟩ = some (.bool bs[k]) := Blk.cell h (by simp [hk])
theorem BoolsAt.set {W : World} {B : Nat} {bs : List Bool} (h : BoolsAt W B bs) (k : Nat) : BoolsAt (W.setCell ⟨B, k, none⟩ (.bool true)) B (bs.set k true) := by
  have := Blk.set h k (.bool true)
  unfold BoolsAt
  rw [List.map_set]
  simpa using this
theorem bools_new (W : World) (n : Nat) : BoolsAt (W.alloc (.cells (Array.replicate n (Value.bool false)) 4)) W.heap.size (List.replicate n false) := by
  have := Blk.new W (Array.replicate n (Value.bool false)) 4
  unfold BoolsAt
  simpa using this
theorem infoBool : (Try.prog.info? 4).map (fun i => (i.zero, i.size, i.bytes)) = some (some (.bool false), 1, 1) := by kernel_rfl
theorem mk_bools (n : Nat) (hn : n ≤ 1000) (W : World) : (Instr.makeSlice 50 (.int .i64 (n : Int)) (.int .i64 (n : Int))).run Try.prog W = .ok (.slice (some ⟨W.heap.size, 0, none⟩) n n) (W.alloc (.cells (Array.replicate n (Value.bool false)) 4)) := by
  obtain ⟨i0, hi, hz0, hz1, hz2⟩ := info_parts infoBool
  have := run_make (P := Try.prog) W 50 4 i0 _ Try.underlying50 hi hz0 .i64 .i64 (n : Int) (n : Int) (by omega) (by omega) (by rw [hz2]; omega) (by omega)
  rw [this, hz1]
  have e : madeCells (Value.bool false).cells (n * 1) = Array.replicate n (Value.bool false) := by
    apply Array.ext'
    rw [Nat.mul_one]
    show (madeCells #[Value.bool false] n).toList = _
    rw [toList_madeCells_one]
    simp
  simp only [Int.toNat_natCast] at *
  rw [e]
set_option maxHeartbeats 1000000 in
set_option maxRecDepth 100000 in
theorem pick_any (x : Int) (n : Nat) (hx : I64 x) (h0 : 0 < n) (h64 : n ≤ 64) (w : World) : Calls Try.prog 16 #[.int .i64 x, .int .i64 (n : Int)] w fun e w' => (∃ k : Nat, k < n ∧ e = .returned (.int .i64 (k : Int))) ∧ w = w' := by
  obtain ⟨hx1, hx2⟩ := hx
  have hn : (0 : Int) < (n : Int) := by omega
  by_cases hneg : x < 0
  · have HV : Sd (∃ k : Nat, k < n ∧ -(x + 1).tmod (n : Int) = (k : Int)) := ⟨by
      obtain ⟨m, hm⟩ : ∃ m : Nat, (m : Int) = -(x + 1) := ⟨(-(x + 1)).toNat, by omega⟩
      refine ⟨m % n, Nat.mod_lt _ h0, ?_⟩
      rw [← Int.neg_tmod, ← hm]
      rfl⟩
    go_enter Try.func16, Try.ntmps16
    go_wp2
    go_ret
    obtain ⟨k, hk, e⟩ := HV.out
    exact ⟨⟨k, hk, by rw [e]; rfl⟩, rfl⟩
  · have HV : Sd (∃ k : Nat, k < n ∧ x % (n : Int) = (k : Int)) := ⟨by
      obtain ⟨m, rfl⟩ : ∃ m : Nat, x = (m : Int) := ⟨x.toNat, by omega⟩
      exact ⟨m % n, Nat.mod_lt _ h0, rfl⟩⟩
    go_enter Try.func16, Try.ntmps16
    go_wp2
    go_ret
    obtain ⟨k, hk, e⟩ := HV.out
    exact ⟨⟨k, hk, by rw [e]; rfl⟩, rfl⟩
/-- the engines, and what is in: between the rounds -/
structure AlikeI (Px Py : World → (Nat → Prop) → List Rul → Prop) (lo IB : Nat) (l : List Rul) (i : Nat) (W : World) : Prop where
  ex : ∃ Nx Ny bs, Two Px Py lo Nx Ny l (sel l bs) W ∧ BoolsAt W IB bs ∧ l.length = bs.length ∧ cnt bs = i ∧ ¬ Nx IB ∧ ¬ Ny IB
  low : lo ≤ IB
  size : lo ≤ W.heap.size
theorem BoolsAt.wide {W : World} {B : Nat} {bs : List Bool} (h : BoolsAt W B bs) : Wide W B := by
  refine ⟨_, _, h, ?_, by decide, by decide⟩
  match bs with
  | [] => exact .inl (by simp)
  | [b] => exact .inr ⟨b, rfl⟩
  | _ :: _ :: _ => exact .inl (by simp)
/-- a mark is written: the engines stay -/
theorem Two.mark {E1 T1 b1 : Nat} {c1 : Cfg} {E2 T2 b2 : Nat} {c2 : Cfg} {lo : Nat} {Nx Ny : Nat → Prop} {rx ry : List Rul} {W : World} {IB : Nat} {bs : List Bool} (h : Two (EngP E1 T1 b1 c1) (EngP E2 T2 b2 c2) lo Nx Ny rx ry W) (hB : BoolsAt W IB bs) (h1 : ¬ Nx IB) (h2 : ¬ Ny IB) (k : Nat) :
    Two (EngP E1 T1 b1 c1) (EngP E2 T2 b2 c2) lo Nx Ny rx ry (W.setCell ⟨IB, k, none⟩ (.bool true)) := by
  have ho : Only W (W.setCell ⟨IB, k, none⟩ (.bool true)) (fun j => j = IB) := (Only.refl W (fun j => j = IB)).setCell ⟨IB, k, none⟩ _ (fun _ => rfl)
  exact ⟨h.x.alien ho (fun j _ hj => by subst hj; exact ⟨h1, hB.wide⟩), h.y.alien ho (fun j _ hj => by subst hj; exact ⟨h2, hB.wide⟩), h.disj, h.low⟩
def cfgB : Cfg := ⟨64, 4, 1048576, 1048576, 1048576, 4, 8⟩
theorem cfgB_ok : cfgB.ck = 0 := by decide
theorem neqVx (hit : Bool) (id act : Int) (W : World) : (binOp .neq 36 (.agg #[.bool hit, .int .i64 id, .int .i64 act]) (.agg #[.bool hit, .int .i64 id, .int .i64 act])).run Try.prog W = .ok (.bool false) W := by
  go_simp
theorem guardVn (a b c a' b' c' : Value) (x y : Operand) (W : World) : (eqGuard .neq 36 x y (.agg #[a, b, c]) (.agg #[a', b', c'])).run Try.prog W = .ok () W := by kernel_rfl
end Go.Proofs.Ytljliopmphaoeaa
