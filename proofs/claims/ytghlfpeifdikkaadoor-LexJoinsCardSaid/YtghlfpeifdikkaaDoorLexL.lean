/- The reference's line. -/
import Derived.Laws.AppendOwn
import Derived.Laws.DeepStrings4
import Derived.Laws.Strings2
import Derived.Deep.RegionWith
import Derived.Test.YtghlfpeifdikkaaDoorLexV
import Derived.Test.YtghlfpeifdikkaaDoorBlk
namespace Go.Proofs.YtghlfpeifdikkaaDoor
open Go.RowKit Go.Proofs.YtghlfpeifdikkaaDoor.Lex

/-- a token's cells -/
def tkC (t : Tk) : List Value := [.int .i64 t.kind, .string t.text, .int .u32 t.value, .int .i64 t.line, .int .i64 t.col]
def tksC (l : List Tk) : List Value := l.flatMap tkC
/-- v is a list of its own with these tokens -/
def Own (w : World) (B : Nat) (v : Value) (l : List Tk) : Prop := w.ownsRow B 38 5 v l.length (tksC l)
theorem tksC_snoc (l : List Tk) (t : Tk) : tksC (l ++ [t]) = tksC l ++ tkC t := by simp [tksC]
theorem tksC_app (l m : List Tk) : tksC (l ++ m) = tksC l ++ tksC m := by simp [tksC]
theorem tksC_len (l : List Tk) : (tksC l).length = l.length * 5 := by
  induction l with
  | nil => rfl
  | cons t l ih => rw [show tksC (t :: l) = tkC t ++ tksC l from rfl, List.length_append, ih]; simp [tkC]; omega
def wrV (x : Wr) : Value := .agg #[.int .i64 x.code, .int .i64 x.line, .int .i64 x.col]
/-- the reference's answer to a line -/
def lineR (s : ByteArray) (no : Nat) : List Tk × Wr := if 200 < s.size then ([], ⟨93, no, 1⟩) else lineFrom s 0 s.size no 0
def LineOut (s : ByteArray) (no : Nat) (w : World) (e : Ending) (w' : World) : Prop :=
  ∃ v, e = .returned (.tuple #[v, wrV (lineR s no).2]) ∧ Own w' w.heap.size v (lineR s no).1 ∧ Below w.heap.size w w'
theorem infoTok : (Tryd.prog.info? 38).map (fun i => (i.zero, i.size, i.bytes)) = some (some (.agg #[.int .i64 0, .string ⟨#[]⟩, .int .u32 0, .int .i64 0, .int .i64 0]), 5, 48) := by kernel_rfl

theorem byte_bd (s : ByteArray) (k : Nat) (h : k < s.size) : ((s[k]'h).toNat : Int) < 256 := by have := UInt8.toNat_lt (s[k]'h); omega
/-- the result's cell, and what else holds ahead of a round -/
structure LineInv (s : ByteArray) (no : Nat) (w : World) (k : Nat) (l : List Tk) (v : Value) (wr : World) : Prop where
  own : Own wr (w.heap.size + 1) v l
  len : l.length ≤ k
  eq : lineFrom s 0 s.size no 0 = (l ++ (lineFrom s 0 s.size no k).1, (lineFrom s 0 s.size no k).2)
  res : Blk wr w.heap.size #[.int .i64 0, .int .i64 0, .int .i64 0] 25
  bel : Below w.heap.size w wr
def store3 (wr : World) (B : Nat) (x : Wr) : World := (((wr.setCell ⟨B, 0, none⟩ (.int .i64 x.code)).setCell ⟨B, 1, none⟩ (.int .i64 x.line)).setCell ⟨B, 2, none⟩ (.int .i64 x.col))
theorem store3_blk {wr : World} {B : Nat} {a b c : Value} {T : TypeId} (h : Blk wr B #[a, b, c] T) (x : Wr) : Blk (store3 wr B x) B #[.int .i64 x.code, .int .i64 x.line, .int .i64 x.col] T := ((h.set 0 _).set 1 _).set 2 _
theorem store3_below {w wr : World} (h : Below w.heap.size w wr) (x : Wr) : Below w.heap.size w (store3 wr w.heap.size x) :=
  ((h.setCell (p := ⟨w.heap.size, 0, none⟩) (Nat.le_refl _) _).setCell (p := ⟨w.heap.size, 1, none⟩) (Nat.le_refl _) _).setCell (p := ⟨w.heap.size, 2, none⟩) (Nat.le_refl _) _
theorem store3_own {w wr : World} {v : Value} {l : List Tk} (h : Own wr (w.heap.size + 1) v l) (x : Wr) : Own (store3 wr w.heap.size x) w.heap.size v l :=
  ownsRow_mono (ownsRow_setCell_below (ownsRow_setCell_below (ownsRow_setCell_below h (a := ⟨w.heap.size, 0, none⟩) (by simp) _) (a := ⟨w.heap.size, 1, none⟩) (by simp) _) (a := ⟨w.heap.size, 2, none⟩) (by simp) _) (by omega)
/-- the way out -/
theorem LineInv.out {s : ByteArray} {no : Nat} {w : World} {k : Nat} {l : List Tk} {v : Value} {wr : World} (h : LineInv s no w k l v wr) (hs : s.size ≤ 200) {x : Wr} (hx : lineFrom s 0 s.size no k = ([], x)) :
    LineOut s no w (.returned (.tuple #[v, wrV x])) (store3 wr w.heap.size x) := by
  have e : lineR s no = (l, x) := by unfold lineR; rw [if_neg (by omega), h.eq, hx]; simp
  refine ⟨v, by rw [e], ?_, store3_below h.bel x⟩
  rw [e]; exact store3_own h.own x
theorem LineOut.alloc {s : ByteArray} {no : Nat} {w w' : World} {e : Ending} (h : LineOut s no w e w') (o : Obj) : LineOut s no w e (w'.alloc o) := by
  obtain ⟨v, he, ho, hb⟩ := h
  exact ⟨v, he, World.ownsRow.alloc ho o, hb.alloc hb.size o⟩
theorem LineInv.drop {s : ByteArray} {no : Nat} {w : World} {k : Nat} {l : List Tk} {v : Value} {wr : World} (h : LineInv s no w k l v wr) (o : Obj) {k' : Nat} (hk : k ≤ k') (he : lineFrom s 0 s.size no k = lineFrom s 0 s.size no k') : LineInv s no w k' l v (wr.alloc o) :=
  ⟨World.ownsRow.alloc h.own o, by have := h.len; omega, by rw [← he]; exact h.eq, h.res.alloc o, h.bel.alloc h.bel.size o⟩
theorem LineInv.tok {s : ByteArray} {no : Nat} {w : World} {k : Nat} {l : List Tk} {v : Value} {wr : World} (h : LineInv s no w k l v wr) {o1 o2 : Obj} {t : Tk} {v' : Value} {w2 : World}
    (hown : w2.ownsRow (w.heap.size + 1) 38 5 v' (l.length + 1) (tksC l ++ tkC t)) (hg : ((wr.alloc o1).alloc o2).grownBy w2 v.ownBlock) {k' : Nat} (hk : k < k')
    (he : lineFrom s 0 s.size no k = (t :: (lineFrom s 0 s.size no k').1, (lineFrom s 0 s.size no k').2)) : LineInv s no w k' (l ++ [t]) v' w2 := by
  have hb := h.own.lt
  refine ⟨?_, by have := h.len; simp; omega, by rw [h.eq, he]; simp, ((h.res.alloc o1).alloc o2).kept hg (fun e => ?_), ((h.bel.alloc h.bel.size o1).alloc (by have := h.bel.size; simp; omega) o2).grown hg (by have := h.bel.size; simp; omega) (fun k e => ?_)⟩
  · unfold Own; rw [tksC_snoc, List.length_append]; exact hown
  · have := (hb _ e.symm).1; omega
  · have := (hb _ e).1; omega
theorem cells_new (X : World) (cs : List Value) (T : TypeId) {B : Nat} (hB : B = X.heap.size) : ∀ j u, cs[j]? = some u → (X.alloc (.cells cs.toArray T)).cell? ((⟨B, 0, none⟩ : Addr).add j) = some u := by
  intro j u h
  subst hB
  have e : ((⟨X.heap.size, 0, none⟩ : Addr).add j) = ⟨X.heap.size, j, none⟩ := by unfold Addr.add; split <;> simp_all
  rw [e]
  exact (Blk.new X cs.toArray T).cell (by simpa using h)
theorem tk_one (t : Tk) : ∀ u ∈ tkC t, u.oneCell' = true := by
  intro u hu
  simp only [tkC, List.mem_cons, List.not_mem_nil, or_false] at hu
  rcases hu with rfl | rfl | rfl | rfl | rfl <;> rfl
theorem kd_lt (c : Nat) : kd c < 4 := by unfold kd; (repeat' split) <;> omega
theorem numV_lt (s : ByteArray) : (numV s).1 < 4294967296 := by
  unfold numV
  split
  · omega
  · split
    · have := fits_le (s := s) (k := s.size) (by assumption); omega
    · omega
theorem bad_le {s : ByteArray} {k i j : Nat} (hk : k ≠ 2) (h : j - i ≤ 16) : bad s k i j = 0 := by unfold bad; rw [if_neg (by omega), if_neg (by omega)]
theorem line_word {s : ByteArray} {no k n : Nat} (h : k < s.size) (h1 : at_ s k ≠ 35) (h2 : blk (at_ s k) = false) (hk : kd (at_ s k) = 1) (hn : tokEnd s 1 k = k + n) :
    (16 < n → lineFrom s 0 s.size no k = ([], ⟨92, no, k + 1⟩)) ∧ (n ≤ 16 → lineFrom s 0 s.size no k = (⟨1, s.extract k (k + n), 0, no, k + 1⟩ :: (lineFrom s 0 s.size no (k + n)).1, (lineFrom s 0 s.size no (k + n)).2)) := by
  have := line_tok (no := no) h h1 h2 hk (by omega)
  unfold tokAt at this
  rw [hn] at this
  refine ⟨fun h16 => ?_, fun h16 => ?_⟩
  · have hb : bad s 1 k (k + n) = 92 := by unfold bad; rw [if_pos (by omega)]
    rw [this, hb, if_pos (by omega)]
  · rw [this, bad_le (by omega) (by omega), if_neg (by omega), if_neg (by omega)]
theorem line_num {s : ByteArray} {no k n : Nat} (h : k < s.size) (h1 : at_ s k ≠ 35) (h2 : blk (at_ s k) = false) (hk : kd (at_ s k) = 2) (hn : tokEnd s 2 k = k + n) (hs : k + n ≤ s.size) :
    ((numV (s.extract k (k + n))).2 = false → lineFrom s 0 s.size no k = ([], ⟨91, no, k + 1⟩)) ∧ ((numV (s.extract k (k + n))).2 = true → lineFrom s 0 s.size no k = (⟨2, s.extract k (k + n), (numV (s.extract k (k + n))).1, no, k + 1⟩ :: (lineFrom s 0 s.size no (k + n)).1, (lineFrom s 0 s.size no (k + n)).2)) := by
  have := line_tok (no := no) h h1 h2 hk (by omega)
  unfold tokAt at this
  rw [hn] at this
  rw [numV_eq s k (k + n) (by omega) hs]
  by_cases hb : bad s 2 k (k + n) = 0
  · rw [if_neg (by omega)]
    refine ⟨fun h => by simp at h, fun _ => ?_⟩
    rw [this, if_neg (by omega), if_pos rfl]
  · rw [if_pos hb]
    refine ⟨fun _ => ?_, fun h => by simp at h⟩
    rw [this, if_pos hb]
    have : bad s 2 k (k + n) = 91 := by
      unfold bad at hb ⊢
      rw [if_neg (by omega)] at hb ⊢
      split at hb
      · rw [if_pos (by assumption)]
      · exact absurd rfl hb
    rw [this]
theorem line_sign {s : ByteArray} {no k : Nat} (h : k < s.size) (h1 : at_ s k ≠ 35) (h2 : blk (at_ s k) = false) (hk : kd (at_ s k) = 3) :
    lineFrom s 0 s.size no k = (⟨3, s.extract k (k + 1), 0, no, k + 1⟩ :: (lineFrom s 0 s.size no (k + 1)).1, (lineFrom s 0 s.size no (k + 1)).2) := by
  have := line_tok (no := no) h h1 h2 hk (by omega)
  unfold tokAt at this
  have e : tokEnd s 3 k = k + 1 := by unfold tokEnd; rw [if_pos rfl]
  rw [e] at this
  rw [this, bad_le (by omega) (by omega), if_neg (by omega), if_neg (by omega)]

set_option maxHeartbeats 4000000 in
set_option maxRecDepth 100000 in
theorem line_any (s : ByteArray) (no : Nat) (w : World) :
    Calls Tryd.prog 20 #[.string s, .int .i64 no] w (LineOut s no w) := by
  by_cases hbig : 200 < s.size
  · have HL : Sd (lineR s no = ([], ⟨93, no, 1⟩)) := ⟨by unfold lineR; rw [if_pos hbig]⟩
    go_enter Tryd.func20, Tryd.ntmps20
    go_wp2
    refine bodyPost_ret (v := .tuple #[.slice none 0 0, wrV ⟨93, no, 1⟩]) ?_ rfl ?_
    · simp [results, Tryd.results20, go_sem, wrV]
    · refine ⟨_, by rw [HL.out], ?_, ?_⟩
      · rw [HL.out]; exact World.ownsRow_nil _ _ _ _
      · exact (Below.refl _ _).alloc (Nat.le_refl _) _
  · have HL : Sd (lineR s no = lineFrom s 0 s.size no 0) := ⟨by unfold lineR; rw [if_neg hbig]⟩
    have hbig2 : s.size ≤ 200 := by omega
    clear hbig
    obtain ⟨i0, hi, hz0, hz1, hz2⟩ := info_parts infoTok
    have HI := Sd.mk (And.intro hi (And.intro hz0 (And.intro hz1 hz2)))
    clear hi hz0 hz1 hz2
    go_enter Tryd.func20, Tryd.ntmps20
    go_wp2
    go_loopw [6, 7] (fun v i wr => ∃ (k : Nat) (l : List Tk), k ≤ s.size ∧ i = .int .i64 k ∧ Sd (LineInv s no w k l v wr)) (fun _ i _ => s.size - (intOf i).toNat)
    case atStart => exact ⟨0, [], by omega, rfl, ⟨World.ownsRow_nil _ _ _ _, by simp, by simp, Blk.new _ _ _, (Below.refl _ _).alloc (Nat.le_refl _) _⟩⟩
    case round =>
      obtain ⟨k, l, hk, rfl, HR⟩ := hrel
      have hres := HR.out.res
      have r0 := hres.at 0
      have r1 := hres.at 1
      have r2 := hres.at 2
      have rf := hres.frozen
      have hsz := hres.lt
      clear hres
      by_cases hlt : k < s.size
      · have hbd := byte_bd s k hlt
        by_cases h35 : (s[k]'hlt).toNat = 35
        · have e35 : (((s[k]'hlt).toNat : Int) != 35) = false := by rw [h35]; rfl
          have H35 := Sd.mk h35
          clear h35
          go_wp2
          refine bodyPost_ret (v := .tuple #[u6, wrV ok]) ?_ rfl (HR.out.out hbig2 (line_remark hlt (by rw [← get_at s k hlt]; exact H35.out)))
          simp [results, Tryd.results20, go_sem, wrV, r0, r1, r2, ok]
        · have e35 : (((s[k]'hlt).toNat : Int) != 35) = true := by simp; omega
          cases hb : blk (s[k]'hlt).toNat
          · have KB := Sd.mk (blank_any (s[k]'hlt).toNat)
            rw [hb] at KB
            have KL := Sd.mk (letter_any (s[k]'hlt).toNat)
            cases h1 : kd (s[k]'hlt).toNat == 1
            · rw [h1] at KL
              have KD := Sd.mk (digit_any (s[k]'hlt).toNat)
              cases h2 : kd (s[k]'hlt).toNat == 2
              · rw [h2] at KD
                have KG := Sd.mk (sign_any (s[k]'hlt).toNat)
                cases h3 : kd (s[k]'hlt).toNat == 3
                · rw [h3] at KG
                  have hk1 : kd (at_ s k) = 0 := by
                    rw [← get_at s k hlt]
                    have := kd_lt (s[k]'hlt).toNat
                    simp at h1 h2 h3
                    omega
                  have HN := Sd.mk (line_byte (no := no) hlt (by rw [← get_at s k hlt]; exact h35) (by rw [← get_at s k hlt]; exact hb) hk1)
                  clear h35 hb h1 h2 h3 hk1
                  go_wp2_with (first | (go_at_call 26; refine (KB.out _).mono ?_; rintro e w1 ⟨rfl, rfl⟩) | (go_at_call 27; refine (KL.out _).mono ?_; rintro e w1 ⟨rfl, rfl⟩) | (go_at_call 29; refine (KD.out _).mono ?_; rintro e w1 ⟨rfl, rfl⟩) | (go_at_call 32; refine (KG.out _).mono ?_; rintro e w1 ⟨rfl, rfl⟩))
                  refine bodyPost_ret (v := .tuple #[u6, wrV ⟨90, no, k + 1⟩]) ?_ rfl ((HR.out.out hbig2 HN.out).alloc _)
                  simp [results, Tryd.results20, go_sem, wrV, r0, r1, r2, hsz]
                · rw [h3] at KG
                  have HN := Sd.mk (line_sign (no := no) hlt (by rw [← get_at s k hlt]; exact h35) (by rw [← get_at s k hlt]; exact hb) (by rw [← get_at s k hlt]; simpa using h3))
                  clear h35 hb h1 h2 h3
                  go_wp2_with (first | (go_at_call 26; refine (KB.out _).mono ?_; rintro e w1 ⟨rfl, rfl⟩) | (go_at_call 27; refine (KL.out _).mono ?_; rintro e w1 ⟨rfl, rfl⟩) | (go_at_call 29; refine (KD.out _).mono ?_; rintro e w1 ⟨rfl, rfl⟩) | (go_at_call 32; refine (KG.out _).mono ?_; rintro e w1 ⟨rfl, rfl⟩) | (at_builtin; refine wpList_append_own _ rfl _ _ 22 rfl (w.heap.size + 1) 38 i0 _ 5 48 Tryd.underlying22 HI.out.1 HI.out.2.1 HI.out.2.2.1 HI.out.2.2.2 rfl (by decide) u6 l.length (tksC l) rfl ((HR.out.own.alloc _).alloc _) ⟨wr.heap.size + 1, 0, none⟩ 1 1 (tkC ⟨3, s.extract k (k + 1), 0, no, k + 1⟩) rfl rfl (cells_new _ (tkC ⟨3, s.extract k (k + 1), 0, no, k + 1⟩) _ (by simp)) (tk_one _) (by have := HR.out.len; unfold maxLen; omega) (by have := HR.out.len; omega) (by simp; omega) ?_; intro v' w2 hown2 hgrow2 _; have HT := Sd.mk (HR.out.tok hown2 hgrow2 (k' := k + 1) (by omega) (HN.out)); clear hown2 hgrow2 HR r0 r1 r2 rf hsz))
                  go_roundw
                  case rel => exact ⟨k + 1, _, by omega, by go_num, HT⟩
                  case measure => simp [intOf]; omega
              · rw [h2] at KD
                have hk1 : kd (at_ s k) = 2 := by rw [← get_at s k hlt]; simpa using h2
                have hk0 : at_ s k ≠ 35 := by rw [← get_at s k hlt]; exact h35
                have hkb : blk (at_ s k) = false := by rw [← get_at s k hlt]; exact hb
                clear h35 hb h1 h2
                have KN := Sd.mk (fun w => digits_any s k w (by omega) (by omega))
                obtain ⟨n, hn⟩ : ∃ n, rowN s 2 k - k = n := ⟨_, rfl⟩
                have hn1 : k + 1 ≤ k + n ∧ k + n ≤ s.size ∧ tokEnd s 2 k = k + n ∧ rowN s 2 k = k + n := by
                  have := tokEnd_gt (k := 2) hlt hk1
                  unfold tokEnd at this ⊢
                  rw [if_neg (by omega)] at this ⊢
                  omega
                obtain ⟨hn1, hn2, hn3, hn4⟩ := hn1
                rw [hn] at KN
                have HN := Sd.mk (line_num (no := no) hlt hk0 hkb hk1 hn3 hn2)
                have KV := Sd.mk (fun w => number_any (s.extract k (k + n)) w (by rw [ByteArray.size_extract]; omega) (fun j hj => by
                  rw [ByteArray.size_extract] at hj
                  rw [at_extract s k (k + n) j hn2 (by omega)]
                  have := skip_all (fun j => kd (at_ s j) == 2) s.size k (k + j) (by omega) (by show k + j < rowN s 2 k; omega)
                  exact (kd2 _).1 this))
                obtain ⟨⟨v, b⟩, hv⟩ : ∃ p, numV (s.extract k (k + n)) = p := ⟨_, rfl⟩
                rw [hv] at KV HN
                have HV := Sd.mk (numV_lt (s.extract k (k + n)))
                rw [hv] at HV
                clear hn hn3 hn4 hk1 hk0 hkb hv
                cases b
                · go_wp2_with (first | (go_at_call 26; refine (KB.out _).mono ?_; rintro e w1 ⟨rfl, rfl⟩) | (go_at_call 27; refine (KL.out _).mono ?_; rintro e w1 ⟨rfl, rfl⟩) | (go_at_call 29; refine (KD.out _).mono ?_; rintro e w1 ⟨rfl, rfl⟩) | (go_at_call 30; refine (KN.out _).mono ?_; rintro e w1 ⟨rfl, rfl⟩) | (go_at_call 31; refine (KV.out _).mono ?_; rintro e w1 ⟨rfl, rfl⟩))
                  refine bodyPost_ret (v := .tuple #[u6, wrV ⟨91, no, k + 1⟩]) ?_ rfl ((HR.out.out hbig2 (HN.out.1 (by trivial))).alloc _)
                  simp [results, Tryd.results20, go_sem, wrV, r0, r1, r2, hsz]
                · go_wp2_with (first | (go_at_call 26; refine (KB.out _).mono ?_; rintro e w1 ⟨rfl, rfl⟩) | (go_at_call 27; refine (KL.out _).mono ?_; rintro e w1 ⟨rfl, rfl⟩) | (go_at_call 29; refine (KD.out _).mono ?_; rintro e w1 ⟨rfl, rfl⟩) | (go_at_call 30; refine (KN.out _).mono ?_; rintro e w1 ⟨rfl, rfl⟩) | (go_at_call 31; refine (KV.out _).mono ?_; rintro e w1 ⟨rfl, rfl⟩) | (at_builtin; refine wpList_append_own _ rfl _ _ 22 rfl (w.heap.size + 1) 38 i0 _ 5 48 Tryd.underlying22 HI.out.1 HI.out.2.1 HI.out.2.2.1 HI.out.2.2.2 rfl (by decide) u6 l.length (tksC l) rfl ((HR.out.own.alloc _).alloc _) ⟨wr.heap.size + 1, 0, none⟩ 1 1 (tkC ⟨2, s.extract k (k + n), v, no, k + 1⟩) rfl rfl (cells_new _ (tkC ⟨2, s.extract k (k + n), v, no, k + 1⟩) _ (by simp)) (tk_one _) (by have := HR.out.len; unfold maxLen; omega) (by have := HR.out.len; omega) (by simp; omega) ?_; intro v' w2 hown2 hgrow2 _; have HT := Sd.mk (HR.out.tok hown2 hgrow2 (k' := k + n) (by omega) (HN.out.2 (by trivial))); clear hown2 hgrow2 HR r0 r1 r2 rf hsz))
                  go_roundw
                  case rel => exact ⟨k + n, _, by omega, by go_num, HT⟩
                  case measure => simp [intOf]; omega
            · rw [h1] at KL
              have hk1 : kd (at_ s k) = 1 := by rw [← get_at s k hlt]; simpa using h1
              have hk0 : at_ s k ≠ 35 := by rw [← get_at s k hlt]; exact h35
              have hkb : blk (at_ s k) = false := by rw [← get_at s k hlt]; exact hb
              clear h35 hb h1
              have KN := Sd.mk (fun w => letters_any s k w (by omega) (by omega))
              obtain ⟨n, hn⟩ : ∃ n, rowN s 1 k - k = n := ⟨_, rfl⟩
              have hn1 : k + 1 ≤ k + n ∧ k + n ≤ s.size ∧ tokEnd s 1 k = k + n := by
                have := tokEnd_gt (k := 1) hlt hk1
                unfold tokEnd at this ⊢
                rw [if_neg (by omega)] at this ⊢
                omega
              obtain ⟨hn1, hn2, hn3⟩ := hn1
              rw [hn] at KN
              have HN := Sd.mk (line_word (no := no) hlt hk0 hkb hk1 hn3)
              clear hn hn3 hk1 hk0 hkb
              by_cases h16 : 16 < n
              · go_wp2_with (first | (go_at_call 26; refine (KB.out _).mono ?_; rintro e w1 ⟨rfl, rfl⟩) | (go_at_call 27; refine (KL.out _).mono ?_; rintro e w1 ⟨rfl, rfl⟩) | (go_at_call 28; refine (KN.out _).mono ?_; rintro e w1 ⟨rfl, rfl⟩))
                refine bodyPost_ret (v := .tuple #[u6, wrV ⟨92, no, k + 1⟩]) ?_ rfl ((HR.out.out hbig2 (HN.out.1 h16)).alloc _)
                simp [results, Tryd.results20, go_sem, wrV, r0, r1, r2, hsz]
              · go_wp2_with (first | (go_at_call 26; refine (KB.out _).mono ?_; rintro e w1 ⟨rfl, rfl⟩) | (go_at_call 27; refine (KL.out _).mono ?_; rintro e w1 ⟨rfl, rfl⟩) | (go_at_call 28; refine (KN.out _).mono ?_; rintro e w1 ⟨rfl, rfl⟩) | (at_builtin; refine wpList_append_own _ rfl _ _ 22 rfl (w.heap.size + 1) 38 i0 _ 5 48 Tryd.underlying22 HI.out.1 HI.out.2.1 HI.out.2.2.1 HI.out.2.2.2 rfl (by decide) u6 l.length (tksC l) rfl ((HR.out.own.alloc _).alloc _) ⟨wr.heap.size + 1, 0, none⟩ 1 1 (tkC ⟨1, s.extract k (k + n), 0, no, k + 1⟩) rfl rfl (cells_new _ (tkC ⟨1, s.extract k (k + n), 0, no, k + 1⟩) _ (by simp)) (tk_one _) (by have := HR.out.len; unfold maxLen; omega) (by have := HR.out.len; omega) (by simp; omega) ?_; intro v' w2 hown2 hgrow2 _; have HT := Sd.mk (HR.out.tok hown2 hgrow2 (k' := k + n) (by omega) (HN.out.2 (by omega))); clear hown2 hgrow2 HR r0 r1 r2 rf hsz))
                go_roundw
                case rel => exact ⟨k + n, _, by omega, by go_num, HT⟩
                case measure => simp [intOf]; omega
          · have KB := Sd.mk (blank_any (s[k]'hlt).toNat)
            rw [hb] at KB
            have HN := Sd.mk (line_skip (no := no) hlt (by rw [← get_at s k hlt]; exact h35) (by rw [← get_at s k hlt]; exact hb))
            clear h35 hb
            go_wp2_with (first | (go_at_call 26; refine (KB.out _).mono ?_; rintro e w1 ⟨rfl, rfl⟩))
            go_roundw
            case rel => exact ⟨k + 1, l, by omega, by go_num, ⟨HR.out.drop _ (by omega) HN.out⟩⟩
            case measure => simp [intOf]; omega
      · have e : k = s.size := by omega
        have HE := Sd.mk e
        clear e
        go_wp2
        refine bodyPost_ret (v := .tuple #[u6, wrV ok]) ?_ rfl (HR.out.out hbig2 (line_over (by have := HE.out; omega)))
        simp [results, Tryd.results20, go_sem, wrV, r0, r1, r2, ok]

end Go.Proofs.YtghlfpeifdikkaaDoor
