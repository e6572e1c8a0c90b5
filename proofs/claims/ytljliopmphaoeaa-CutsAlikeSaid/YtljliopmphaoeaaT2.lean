/- A list of rules in memory; New, find and takes of package table. -/
import Derived.Test.YtljliopmphaoeaaT1
namespace Go.Proofs.Ytljliopmphaoeaa
open Go Go.RowKit Go.Proofs.Ytljliopmphaoeaa.Q

/-- a slice that reads as these rules: n of them at an address -/
structure RulsAt (W : World) (A : Option Addr) (rs : List Rul) : Prop where
  at' : ∀ k (h : k < rs.length), ∃ g o, A = some ⟨g, o, none⟩ ∧ g < W.heap.size ∧ ∀ i u, #[.int .i64 rs[k].id, .int .u32 rs[k].src.a, .int .i64 rs[k].src.n, .int .u32 rs[k].dst.a, .int .i64 rs[k].dst.n, .int .u16 rs[k].sp.lo, .int .u16 rs[k].sp.hi, .int .u16 rs[k].dp.lo, .int .u16 rs[k].dp.hi, .int .u8 rs[k].pr.v, .int .u8 rs[k].pr.c, .int .i64 rs[k].act][i]? = some u → W.cell? ⟨g, o + k * 12 + i, none⟩ = some u
theorem RulsAt.below {W W' : World} {A : Option Addr} {rs : List Rul} (h : RulsAt W A rs) (hb : Below W.heap.size W W') : RulsAt W' A rs :=
  ⟨fun k hk => by
    obtain ⟨g, o, h1, h2, h3⟩ := h.at' k hk
    exact ⟨g, o, h1, Nat.lt_of_lt_of_le h2 hb.size, fun i u hu => (hb.cell (p := ⟨g, o + k * 12 + i, none⟩) h2).trans (h3 i u hu)⟩⟩
theorem RulsAt.take {W : World} {A : Option Addr} {rs : List Rul} (h : RulsAt W A rs) (n : Nat) : RulsAt W A (rs.take n) :=
  ⟨fun k hk => by
    have hk2 : k < rs.length := by rw [List.length_take] at hk; omega
    obtain ⟨g, o, h1, h2, h3⟩ := h.at' k hk2
    refine ⟨g, o, h1, h2, ?_⟩
    rw [List.getElem_take]
    exact h3⟩
/-- the cells of one of them -/
theorem RulsAt.cells {W : World} {A : Option Addr} {rs : List Rul} (h : RulsAt W A rs) (k : Nat) (hk : k < rs.length) : ∃ g o, A = some ⟨g, o, none⟩ ∧ g < W.heap.size ∧
    W.cell? ⟨g, o + k * 12, none⟩ = some (.int .i64 rs[k].id) ∧ W.cell? ⟨g, o + k * 12 + 1, none⟩ = some (.int .u32 rs[k].src.a) ∧ W.cell? ⟨g, o + k * 12 + 2, none⟩ = some (.int .i64 rs[k].src.n) ∧
    W.cell? ⟨g, o + k * 12 + 3, none⟩ = some (.int .u32 rs[k].dst.a) ∧ W.cell? ⟨g, o + k * 12 + 4, none⟩ = some (.int .i64 rs[k].dst.n) ∧ W.cell? ⟨g, o + k * 12 + 5, none⟩ = some (.int .u16 rs[k].sp.lo) ∧
    W.cell? ⟨g, o + k * 12 + 6, none⟩ = some (.int .u16 rs[k].sp.hi) ∧ W.cell? ⟨g, o + k * 12 + 7, none⟩ = some (.int .u16 rs[k].dp.lo) ∧ W.cell? ⟨g, o + k * 12 + 8, none⟩ = some (.int .u16 rs[k].dp.hi) ∧
    W.cell? ⟨g, o + k * 12 + 9, none⟩ = some (.int .u8 rs[k].pr.v) ∧ W.cell? ⟨g, o + k * 12 + 10, none⟩ = some (.int .u8 rs[k].pr.c) ∧ W.cell? ⟨g, o + k * 12 + 11, none⟩ = some (.int .i64 rs[k].act) := by
  obtain ⟨g, o, h1, h2, h3⟩ := h.at' k hk
  exact ⟨g, o, h1, h2, h3 0 _ rfl, h3 1 _ rfl, h3 2 _ rfl, h3 3 _ rfl, h3 4 _ rfl, h3 5 _ rfl, h3 6 _ rfl, h3 7 _ rfl, h3 8 _ rfl, h3 9 _ rfl, h3 10 _ rfl, h3 11 _ rfl⟩

/-- the place of an id -/
def findI (rs : List Rul) (id : Int) : Int := match rs.findIdx? (fun r => r.id == id) with | some k => k | none => -1
theorem findI_at (rs : List Rul) (id : Int) (k : Nat) (hk : k < rs.length) (h : rs[k].id = id) (hb : ∀ j (h : j < rs.length), j < k → rs[j].id ≠ id) : findI rs id = k := by
  unfold findI
  have : rs.findIdx? (fun r => r.id == id) = some k := by
    rw [List.findIdx?_eq_some_iff_getElem]
    exact ⟨hk, by simp [h], fun j hj => by simp [hb j (by omega) hj]⟩
  rw [this]
theorem findI_none (rs : List Rul) (id : Int) (hb : ∀ j (h : j < rs.length), rs[j].id ≠ id) : findI rs id = -1 := by
  unfold findI
  have : rs.findIdx? (fun r => r.id == id) = none := by
    rw [List.findIdx?_eq_none_iff]
    intro x hx
    obtain ⟨j, hj, rfl⟩ := List.getElem_of_mem hx
    simp [hb j hj]
  rw [this]
theorem findI_cases (rs : List Rul) (id : Int) : findI rs id = -1 ∨ ∃ k : Nat, k < rs.length ∧ findI rs id = k := by
  unfold findI
  cases h : rs.findIdx? (fun r => r.id == id) with
  | none => exact .inl rfl
  | some k => exact .inr ⟨k, (List.findIdx?_eq_some_iff_getElem.1 h).1, rfl⟩
set_option maxHeartbeats 1000000 in
theorem find_any (rs : List Rul) (A : Option Addr) (cap : Nat) (id : Int) (hl : rs.length ≤ 1000000000000) (w : World) (hR : RulsAt w A rs) :
    Calls Try.prog 57 #[.slice A rs.length cap, .int .i64 id] w fun e w' => e = .returned (.int .i64 (findI rs id)) ∧ w = w' := by
  have HR := Sd.mk hR
  clear hR
  go_enter Try.func57, Try.ntmps57
  go_wp2
  go_loop [8] (fun iv => ∃ k : Nat, k ≤ rs.length ∧ iv = .int .i64 k ∧ Sd (∀ j (h : j < rs.length), j < k → rs[j].id ≠ id)) (fun iv => rs.length - (intOf iv).toNat)
  case atStart => exact ⟨0, by omega, rfl, ⟨fun j h hj => by omega⟩⟩
  case round =>
    obtain ⟨k, hk, rfl, HI⟩ := hrel
    by_cases hlt : k < rs.length
    · obtain ⟨g, o, rfl, hg, c0, _⟩ := HR.out.cells k hlt
      by_cases he : rs[k].id = id
      · have HQ := Sd.mk (findI_at rs id k hlt he HI.out)
        have ht : (rs[k].id == id) = true := by simp [he]
        clear he
        go_wp2
        go_ret
        exact ⟨ret_int HQ.out.symm, rfl⟩
      · have ht : (rs[k].id == id) = false := by simp [he]
        have HE := Sd.mk he
        clear he
        go_wp2
        go_round
        case rel => exact ⟨k + 1, by omega, by go_num, ⟨fun j h hj => by
          by_cases e : j = k
          · subst e; exact HE.out
          · exact HI.out j h (by omega)⟩⟩
        case measure => simp [intOf]; omega
    · have HQ : Sd (findI rs id = -1) := ⟨findI_none rs id (fun j h => HI.out j h (by omega))⟩
      go_wp2
      go_ret
      exact ⟨ret_int HQ.out.symm, rfl⟩
/-- may a rule be laid behind these? -/
def takesI (rs : List Rul) (r : Rul) : Int := if r.ck.1 ≠ 0 then r.ck.1 else if 0 ≤ findI rs r.id then 111 else 0
theorem takesI_cases (rs : List Rul) (r : Rul) : (r.ck.1 ≠ 0 ∧ takesI rs r = r.ck.1) ∨ (r.ck.1 = 0 ∧ 0 ≤ findI rs r.id ∧ takesI rs r = 111) ∨ (r.ck.1 = 0 ∧ findI rs r.id < 0 ∧ takesI rs r = 0) := by
  unfold takesI
  by_cases h1 : r.ck.1 ≠ 0
  · rw [if_pos h1]; exact .inl ⟨h1, rfl⟩
  · rw [if_neg h1]
    by_cases h2 : 0 ≤ findI rs r.id
    · rw [if_pos h2]; exact .inr (.inl ⟨by omega, h2, rfl⟩)
    · rw [if_neg h2]; exact .inr (.inr ⟨by omega, by omega, rfl⟩)
set_option maxHeartbeats 1000000 in
set_option maxRecDepth 100000 in
theorem takes_any (t : Value) (rs : List Rul) (A : Option Addr) (cap : Nat) (r : Rul) (hw : r.Wf) (hl : rs.length ≤ 1000000000000) (w : World) (hR : RulsAt w A rs) :
    Calls Try.prog 54 #[t, .slice A rs.length cap, .agg #[.int .i64 r.id, .int .u32 r.src.a, .int .i64 r.src.n, .int .u32 r.dst.a, .int .i64 r.dst.n, .int .u16 r.sp.lo, .int .u16 r.sp.hi, .int .u16 r.dp.lo, .int .u16 r.dp.hi, .int .u8 r.pr.v, .int .u8 r.pr.c, .int .i64 r.act]] w fun e w' => e = .returned (.int .i64 (takesI rs r)) ∧ Below w.heap.size w w' := by
  have HK := Sd.mk (ruleCheck_any r hw)
  have HR := Sd.mk hR
  have HF := Sd.mk (fun W h => find_any rs A cap r.id hl W h)
  have hcs := takesI_cases rs r
  clear hR hw
  rcases hcs with ⟨h1, h2⟩ | ⟨h1, h3, h2⟩ | ⟨h1, h3, h2⟩
  · have HQ := Sd.mk h2
    have ht : (r.ck.1 != 0) = true := by simp [h1]
    clear h1 h2
    go_enter Try.func54, Try.ntmps54
    go_wp2_with fail
    refine (HK.out _).mono ?_
    rintro e w1 ⟨rfl, hb⟩
    have HB := Sd.mk (beyond (below_alloc (Below.refl w.heap.size w) _) hb)
    clear hb
    go_wp2
    go_ret
    exact ⟨ret_int HQ.out.symm, HB.out⟩
  all_goals
    have HQ := Sd.mk h2
    rw [h1] at HK
    clear h1 h2
    go_enter Try.func54, Try.ntmps54
    go_wp2_with fail
    refine (HK.out _).mono ?_
    rintro e w1 ⟨rfl, hb⟩
    have HB := Sd.mk (beyond (below_alloc (Below.refl w.heap.size w) _) hb)
    have k := (Blk.new w #[.int .i64 r.id, .int .u32 r.src.a, .int .i64 r.src.n, .int .u32 r.dst.a, .int .i64 r.dst.n, .int .u16 r.sp.lo, .int .u16 r.sp.hi, .int .u16 r.dp.lo, .int .u16 r.dp.hi, .int .u8 r.pr.v, .int .u8 r.pr.c, .int .i64 r.act] 60).below hb (Blk.new w _ _).lt
    have c0 := k.cell (i := 0) rfl
    have HR1 := Sd.mk (HR.out.below HB.out)
    clear hb k
    go_wp2_with fail
    refine (HF.out _ HR1.out).mono ?_
    rintro e w2 ⟨rfl, rfl⟩
    go_wp2
    go_ret
    exact ⟨ret_int HQ.out.symm, HB.out⟩
/-- a table in memory: its configuration, and the slice of its rules -/
def TabAt (W : World) (B : Nat) (c : Cfg) (v : Value) : Prop := Blk W B #[.int .i64 c.max, .int .i64 c.dflt, .int .i64 c.prune, .int .i64 c.grid, .int .i64 c.tuple, .int .i64 c.binth, .int .i64 c.depth, v] 104
theorem Cfg.ck_cases (c : Cfg) : c.ck = 0 ∨ c.ck = 110 := by unfold Cfg.ck; split <;> simp
set_option maxHeartbeats 1000000 in
set_option maxRecDepth 100000 in
theorem tabNew_no (c : Cfg) (w : World) (h : c.ck = 110) : Calls Try.prog 24 #[.agg #[.int .i64 c.max, .int .i64 c.dflt, .int .i64 c.prune, .int .i64 c.grid, .int .i64 c.tuple, .int .i64 c.binth, .int .i64 c.depth]] w fun e w' => e = .returned (.tuple #[.pointer none, .int .i64 110]) ∧ Below w.heap.size w w' := by
  have K := tabCheck_any c
  rw [h] at K
  have HK := Sd.mk K
  clear K h
  go_enter Try.func24, Try.ntmps24
  go_wp2_with fail
  refine (HK.out _).mono ?_
  rintro e w1 ⟨rfl, hb⟩
  have HB := Sd.mk (beyond (below_alloc (Below.refl w.heap.size w) _) hb)
  clear hb
  go_wp2
  go_ret2
  exact ⟨rfl, HB.out⟩
set_option maxHeartbeats 1000000 in
set_option maxRecDepth 100000 in
theorem tabNew_ok (c : Cfg) (w : World) (h : c.ck = 0) : Calls Try.prog 24 #[.agg #[.int .i64 c.max, .int .i64 c.dflt, .int .i64 c.prune, .int .i64 c.grid, .int .i64 c.tuple, .int .i64 c.binth, .int .i64 c.depth]] w fun e w' => ∃ B, e = .returned (.tuple #[.pointer (some ⟨B, 0, none⟩), .int .i64 0]) ∧ w.heap.size ≤ B ∧ TabAt w' B c (.slice none 0 0) ∧ Below w.heap.size w w' := by
  have K := tabCheck_any c
  rw [h] at K
  have HK := Sd.mk K
  clear K h
  go_enter Try.func24, Try.ntmps24
  go_wp2_with fail
  refine (HK.out _).mono ?_
  rintro e w1 ⟨rfl, hb⟩
  have HB := Sd.mk (beyond (below_alloc (Below.refl w.heap.size w) _) hb)
  have k := (Blk.new w #[.int .i64 c.max, .int .i64 c.dflt, .int .i64 c.prune, .int .i64 c.grid, .int .i64 c.tuple, .int .i64 c.binth, .int .i64 c.depth] 24).below hb (Blk.new w _ _).lt
  obtain ⟨c0, c1, c2, c3, c4, c5, c6⟩ := show w1.cell? ⟨w.heap.size, 0, none⟩ = some (.int .i64 c.max) ∧ w1.cell? ⟨w.heap.size, 1, none⟩ = some (.int .i64 c.dflt) ∧ w1.cell? ⟨w.heap.size, 2, none⟩ = some (.int .i64 c.prune) ∧ w1.cell? ⟨w.heap.size, 3, none⟩ = some (.int .i64 c.grid) ∧ w1.cell? ⟨w.heap.size, 4, none⟩ = some (.int .i64 c.tuple) ∧ w1.cell? ⟨w.heap.size, 5, none⟩ = some (.int .i64 c.binth) ∧ w1.cell? ⟨w.heap.size, 6, none⟩ = some (.int .i64 c.depth) from ⟨k.cell (i := 0) rfl, k.cell (i := 1) rfl, k.cell (i := 2) rfl, k.cell (i := 3) rfl, k.cell (i := 4) rfl, k.cell (i := 5) rfl, k.cell (i := 6) rfl⟩
  clear hb k
  go_wp2
  go_ret2
  exact ⟨_, rfl, HB.out.size, Blk.new _ _ _, below_alloc HB.out _⟩
end Go.Proofs.Ytljliopmphaoeaa
