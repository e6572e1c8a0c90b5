/- Whether a word or number may be. -/
import Derived.Laws.RangeString
import Derived.WalkLawsBesides
import Derived.Test.YtghlfpeifdikkaaDoorEnds
namespace Go.Proofs.YtghlfpeifdikkaaDoor
open Go.RowKit Go.Proofs.YtghlfpeifdikkaaDoor.Lex

/-- the value of a text of digits, as the scanner counts it -/
def dvT (x : ByteArray) (k : Nat) : Nat := dval x 0 k
theorem dvT_succ (x : ByteArray) (k : Nat) : dvT x (k + 1) = min (10 * dvT x k + (at_ x k - 48)) 8589934592 := by
  have := dval_succ x 0 k
  rw [Nat.zero_add, Nat.zero_add] at this
  exact this
theorem dvT_le (x : ByteArray) (k : Nat) : dvT x k ≤ 8589934592 := by
  cases k with
  | zero => unfold dvT; rw [dval_none _ _ _ (by omega)]; omega
  | succ k => rw [dvT_succ]; omega
/-- what is wrong with a token of that kind and text -/
def badT (k : Nat) (x : ByteArray) : Nat := if k = 1 ∧ 16 < x.size then 92 else if k = 2 ∧ (4294967296 ≤ dvT x x.size ∨ 1 < x.size ∧ at_ x 0 = 48) then 91 else 0
def chkSt (t : St) (k : Tk) : St := if badT k.kind k.text = 0 then t else { t with wrong := ⟨badT k.kind k.text, k.line, k.col⟩ }
def chkTk (k : Tk) : Option Tk := if badT k.kind k.text = 0 then some { k with value := if k.kind = 2 then dvT k.text k.text.size else 0 } else none

theorem dvT_int (x : ByteArray) (k : Nat) (h : k < x.size) (h1 : 48 ≤ ((x[k]'h).toNat : Int)) : (if (8589934592 : Int) < 10 * (dvT x k : Nat) + (((x[k]'h).toNat : Int) - 48) then (8589934592 : Int) else 10 * (dvT x k : Nat) + (((x[k]'h).toNat : Int) - 48)) = (dvT x (k + 1) : Nat) := by
  rw [dvT_succ, ← get_at x k h]
  split <;> omega
theorem Blk.putTk {w : World} {B R : Nat} {c : Array Value} {T : TypeId} (h : Blk w B c T) (hne : B ≠ R) (k l : Int) (x : ByteArray) (v d : Int) : Blk (putTk w R k l x v d) B c T :=
  ((((h.other (a := ⟨R, 0, none⟩) _ hne).other (a := ⟨R, 1, none⟩) _ hne).other (a := ⟨R, 2, none⟩) _ hne).other (a := ⟨R, 3, none⟩) _ hne).other (a := ⟨R, 4, none⟩) _ hne
theorem fault_new {X : World} {B N : Nat} {s : ByteArray} {t : St} {told : Value} {n : Nat} (hb : Blk X B (scanC s t told n (.pointer (some ⟨N, 0, none⟩))) 62) (hN : X.heap.size = N) (x : Wr) (hx : x.code ≠ 0) :
    Scan (X.alloc (.cells #[.int .i64 x.code, .int .i64 x.line, .int .i64 x.col] 59)) B s { t with wrong := x } told n (.pointer (some ⟨N, 0, none⟩)) := by
  subst hN
  exact ⟨hb.alloc _, .inr ⟨hx, _, rfl, hb.lt, Blk.new _ _ _⟩⟩
theorem chk_bad {W : World} {B T R : Nat} {s : ByteArray} {t : St} {told : Value} {n : Nat} {cT cR : Array Value} (hS : Scan W B s t told n (.pointer none)) (hT : Blk W T cT 38) (hR : Blk W R cR 38) (y : Value) (k l : Int) (x : ByteArray) (v c : Int) (z : Wr) (hz : z.code ≠ 0) :
    Scan ((putTk ((W.setCell ⟨B, 6, none⟩ (.pointer (some ⟨W.heap.size, 0, none⟩))).setCell ⟨T, 2, none⟩ y) R k l x v c).alloc (.cells #[.int .i64 z.code, .int .i64 z.line, .int .i64 z.col] 59)) B s { t with wrong := z } told n (.pointer (some ⟨W.heap.size, 0, none⟩)) :=
  fault_new (((hS.blk.set 6 _).other (a := ⟨T, 2, none⟩) _ (hS.blk.ne hT (by decide))).putTk (hS.blk.ne hR (by decide)) k l x v c) (by simp [putTk]) z hz
theorem chk_good {W : World} {B T R : Nat} {s : ByteArray} {t : St} {told : Value} {n : Nat} {cT cR : Array Value} {p : Value} (hS : Scan W B s t told n p) (hT : Blk W T cT 38) (hR : Blk W R cR 38) (hTR : R ≠ T) (y : Value) (k l : Int) (x : ByteArray) (v c : Int) :
    Scan (putTk (W.setCell ⟨T, 2, none⟩ y) R k l x v c) B s t told n p := (hS.other hT 2 y).putTk (hR.other (a := ⟨T, 2, none⟩) y hTR) k l x v c
theorem chk_only {w W : World} {B T R : Nat} (h : Only w W (· = B)) (hT : w.heap.size ≤ T) (hR : w.heap.size ≤ R) (y z : Value) (k l : Int) (x : ByteArray) (v c : Int) :
    Only w (putTk (W.setCell ⟨T, 2, none⟩ y) R k l x v c) (· = B) ∧ Only w (putTk ((W.setCell ⟨B, 6, none⟩ z).setCell ⟨T, 2, none⟩ y) R k l x v c) (· = B) :=
  ⟨(h.setCell ⟨T, 2, none⟩ y (fun hh => absurd hh (Nat.not_lt.2 hT))).putTk R (fun hh => absurd hh (Nat.not_lt.2 hR)) k l x v c, ((h.setCell ⟨B, 6, none⟩ z (fun _ => rfl)).setCell ⟨T, 2, none⟩ y (fun hh => absurd hh (Nat.not_lt.2 hT))).putTk R (fun hh => absurd hh (Nat.not_lt.2 hR)) k l x v c⟩
theorem bad_num (t : St) (x : ByteArray) (l c d : Nat) (hd : dvT x x.size = d) (h : 4294967296 ≤ d ∨ 1 < x.size ∧ at_ x 0 = 48) : chkTk ⟨2, x, 0, l, c⟩ = none ∧ chkSt t ⟨2, x, 0, l, c⟩ = { t with wrong := ⟨91, l, c⟩ } := by
  have hb : badT 2 x = 91 := by
    unfold badT
    rw [if_neg (by omega), hd, if_pos ⟨rfl, h⟩]
  unfold chkTk chkSt
  simp only [hb]
  exact ⟨if_neg (by omega), if_neg (by omega)⟩
theorem good_num (t : St) (x : ByteArray) (l c d : Nat) (hd : dvT x x.size = d) (h : ¬ (4294967296 ≤ d ∨ 1 < x.size ∧ at_ x 0 = 48)) : chkTk ⟨2, x, 0, l, c⟩ = some ⟨2, x, d, l, c⟩ ∧ chkSt t ⟨2, x, 0, l, c⟩ = t := by
  have hb : badT 2 x = 0 := by
    unfold badT
    rw [if_neg (by omega), hd, if_neg (by omega)]
  unfold chkTk chkSt
  simp only [hb, hd]
  exact ⟨rfl, rfl⟩
/-- the world in which the digits are counted -/
def chkW (w : World) (x : ByteArray) (l c : Nat) : World := (w.alloc (.cells #[.int .i64 2, .string x, .int .u32 0, .int .i64 l, .int .i64 c] 38)).alloc (.cells #[.int .i64 0, .string ⟨#[]⟩, .int .u32 0, .int .i64 0, .int .i64 0] 38)
theorem chkW_size (w : World) (x : ByteArray) (l c : Nat) : (chkW w x l c).heap.size = w.heap.size + 1 + 1 := by simp [chkW]
theorem chkW_blk (w : World) (x : ByteArray) (l c : Nat) : Blk (chkW w x l c) w.heap.size #[.int .i64 2, .string x, .int .u32 0, .int .i64 l, .int .i64 c] 38 ∧ Blk (chkW w x l c) (w.heap.size + 1) #[.int .i64 0, .string ⟨#[]⟩, .int .u32 0, .int .i64 0, .int .i64 0] 38 := two_new w w.heap.size rfl _ _ _ _
/-- how far an iterator has come -/
def iterPos (w : World) (b : Nat) : Nat := match w.heap[b]? with | some (.stringIter _ p) => p | _ => 0
theorem iterPos_iter (W : World) (x : ByteArray) (k b : Nat) (h : W.heap.size = b) : iterPos (W.iter x k) b = k := by
  subst h; unfold iterPos; rw [World.iter_heap]
set_option maxHeartbeats 4000000 in
set_option maxRecDepth 100000 in
theorem checked_num (w : World) (B : Nat) (s : ByteArray) (t : St) (told : Value) (n : Nat) (x : ByteArray) (l c : Nat) (hx : x.size ≤ 140737488351232) (hS : Scan w B s t told n (.pointer none)) (hd : ∀ j, j < x.size → 48 ≤ at_ x j ∧ at_ x j ≤ 57) :
    Calls Tryd.prog 40 #[.pointer (some ⟨B, 0, none⟩), tkV ⟨2, x, 0, l, c⟩] w fun e w' => TokOut (chkTk ⟨2, x, 0, l, c⟩) e ∧ Went w B s (chkSt t ⟨2, x, 0, l, c⟩) told n w' := by
  have HS := Sd.mk hS
  have HD := Sd.mk hd
  have hblk := hS.blk
  unfold scanC at hblk
  have c6 := hblk.cell (i := 6) rfl
  have cf := hblk.frozen
  have hlt := hblk.lt
  clear hblk hS hd
  unfold tkV
  go_enter Tryd.func40, Tryd.ntmps40
  go_wp2
  go_loopw [6] (fun v wr => ∃ k : Nat, k ≤ x.size ∧ v = .int .i64 (dvT x k : Nat) ∧ wr = (chkW w x l c).iter x k) (fun _ wr => x.size - iterPos wr (w.heap.size + 1 + 1))
  case atStart => exact ⟨0, by omega, by unfold dvT; rw [dval_none _ _ _ (by omega)]; rfl, rfl⟩
  case round =>
    obtain ⟨k, hk, rfl, rfl⟩ := hrel
    by_cases hlt2 : k < x.size
    · have hd1 : 48 ≤ ((x[k]'hlt2).toNat : Int) := by have := (HD.out k hlt2).1; rw [get_at x k hlt2]; omega
      have hd2 : ((x[k]'hlt2).toNat : Int) ≤ 57 := by have := (HD.out k hlt2).2; rw [get_at x k hlt2]; omega
      have hn := fun ty => run_next_ascii (P := Tryd.prog) (chkW w x l c) x k ty hlt2 (by omega)
      rw [chkW_size] at hn
      have hv := dvT_le x k
      go_wp2
      go_roundw
      case rel => exact ⟨k + 1, by omega, by rw [dvT_int x k hlt2 hd1], rfl⟩
      case measure => rw [iterPos_iter _ _ _ _ (chkW_size w x l c), iterPos_iter _ _ _ _ (chkW_size w x l c)]; omega
    · have hn := fun ty => run_next_end (P := Tryd.prog) (chkW w x l c) x k ty hlt2
      rw [chkW_size] at hn
      obtain rfl : k = x.size := by omega
      have hv := dvT_le x x.size
      obtain ⟨d, hd⟩ : ∃ d, dvT x x.size = d := ⟨_, rfl⟩
      rw [hd] at hv ⊢
      have HV := Sd.mk hd
      clear hd hlt2 hk
      obtain ⟨hT0, hR0⟩ := chkW_blk w x l c
      have hT := hT0.alloc (.stringIter x x.size)
      have hR := hR0.alloc (.stringIter x x.size)
      have hSc := ((HS.out.alloc _).alloc _).alloc (.stringIter x x.size) |> (fun h : Scan ((chkW w x l c).iter x x.size) B s t told n (.pointer none) => h)
      have hO := (((Only.refl w (· = B)).alloc _).alloc _).alloc (.stringIter x x.size) |> (fun h : Only w ((chkW w x l c).iter x x.size) (· = B) => h)
      change Blk ((chkW w x l c).iter x x.size) _ _ _ at hT
      change Blk ((chkW w x l c).iter x x.size) _ _ _ at hR
      generalize (chkW w x l c).iter x x.size = W1 at *
      clear hT0 hR0 c6 cf
      have HT := Sd.mk hT
      have HR := Sd.mk hR
      have HO := Sd.mk hO
      have HSc := Sd.mk hSc
      have hblk := hSc.blk
      unfold scanC at hblk
      have c6 := hblk.cell (i := 6) rfl
      have cf := hblk.frozen
      have a0 := hT.cell (i := 0) rfl
      have a1 := hT.cell (i := 1) rfl
      have a2 := hT.cell (i := 2) rfl
      have a3 := hT.cell (i := 3) rfl
      have a4 := hT.cell (i := 4) rfl
      have af := hT.frozen
      have al := hT.lt
      have b0 := hR.cell (i := 0) rfl
      have b1 := hR.cell (i := 1) rfl
      have b2 := hR.cell (i := 2) rfl
      have b3 := hR.cell (i := 3) rfl
      have b4 := hR.cell (i := 4) rfl
      have bf := hR.frozen
      have bl := hR.lt
      have cl := hblk.lt
      clear hT hR hSc hblk hO
      by_cases hbig : (4294967296 : Int) ≤ d
      · clear hv
        go_wp2
        go_region
        go_wp2
        refine bodyPost_ret (v := .tuple #[.agg #[.int .i64 2, .string x, .int .u32 ((d : Int) % 4294967296), .int .i64 l, .int .i64 c], .bool false]) ?_ rfl ⟨⟨⟨2, x, d % 4294967296, l, c⟩, false, by unfold tkV; rfl, by rw [(bad_num t x l c d HV.out (Or.inl (by omega))).1]; rfl⟩, ⟨_, by rw [(bad_num t x l c d HV.out (Or.inl (by omega))).2]; exact (chk_bad HSc.out HT.out HR.out _ _ _ _ _ _ ⟨91, l, c⟩ (by simp)).drew⟩, ((chk_only HO.out (Nat.le_refl _) (by omega) _ _ _ _ _ _ _).2.alloc _).drew⟩
        simp [results, Tryd.results40, go_sem, bl, b0, b1, b2, b3, b4]
      · have HB := Sd.mk (show d < 4294967296 by omega)
        have eb : decide ((4294967296 : Int) ≤ d) = false := by simpa using hbig
        clear hbig hv
        by_cases h1 : 1 < x.size
        · have g0 := get_at x 0 (by omega)
          by_cases h0 : at_ x 0 = 48
          · have e0 : (((x[0]'(by omega)).toNat : Int) == 48) = true := by rw [g0, h0]; rfl
            clear g0
            have H0 := Sd.mk h0
            clear h0
            go_wp2
            go_region
            go_wp2
            refine bodyPost_ret (v := .tuple #[.agg #[.int .i64 2, .string x, .int .u32 ((d : Int) % 4294967296), .int .i64 l, .int .i64 c], .bool false]) ?_ rfl ⟨⟨⟨2, x, d % 4294967296, l, c⟩, false, by unfold tkV; rfl, by rw [(bad_num t x l c d HV.out (Or.inr ⟨h1, H0.out⟩)).1]; rfl⟩, ⟨_, by rw [(bad_num t x l c d HV.out (Or.inr ⟨h1, H0.out⟩)).2]; exact (chk_bad HSc.out HT.out HR.out _ _ _ _ _ _ ⟨91, l, c⟩ (by simp)).drew⟩, ((chk_only HO.out (Nat.le_refl _) (by omega) _ _ _ _ _ _ _).2.alloc _).drew⟩
            simp [results, Tryd.results40, go_sem, bl, b0, b1, b2, b3, b4]
          · have e0 : (((x[0]'(by omega)).toNat : Int) == 48) = false := by rw [g0]; simp; omega
            clear g0
            have H0 := Sd.mk h0
            clear h0
            go_wp2
            go_region
            go_wp2
            refine bodyPost_ret (v := .tuple #[.agg #[.int .i64 2, .string x, .int .u32 ((d : Int) % 4294967296), .int .i64 l, .int .i64 c], .bool true]) ?_ rfl ⟨⟨⟨2, x, d, l, c⟩, true, by unfold tkV; rw [show ((d : Int) % 4294967296) = d from by have := HB.out; omega]; rfl, by rw [(good_num t x l c d HV.out (fun hh => by have := HB.out; have := H0.out; omega)).1]; rfl⟩, ⟨_, by rw [(good_num t x l c d HV.out (fun hh => by have := HB.out; have := H0.out; omega)).2]; exact (chk_good HSc.out HT.out HR.out (by omega) _ _ _ _ _ _).drew⟩, (chk_only (z := undef) HO.out (Nat.le_refl _) (by omega) _ _ _ _ _ _).1.drew⟩
            simp [results, Tryd.results40, go_sem, b0, b1, b2, b3, b4]
        · go_wp2
          go_region
          go_wp2
          refine bodyPost_ret (v := .tuple #[.agg #[.int .i64 2, .string x, .int .u32 ((d : Int) % 4294967296), .int .i64 l, .int .i64 c], .bool true]) ?_ rfl ⟨⟨⟨2, x, d, l, c⟩, true, by unfold tkV; rw [show ((d : Int) % 4294967296) = d from by have := HB.out; omega]; rfl, by rw [(good_num t x l c d HV.out (fun hh => by have := HB.out; omega)).1]; rfl⟩, ⟨_, by rw [(good_num t x l c d HV.out (fun hh => by have := HB.out; omega)).2]; exact (chk_good HSc.out HT.out HR.out (by omega) _ _ _ _ _ _).drew⟩, (chk_only (z := undef) HO.out (Nat.le_refl _) (by omega) _ _ _ _ _ _).1.drew⟩
          simp [results, Tryd.results40, go_sem, b0, b1, b2, b3, b4]
end Go.Proofs.YtghlfpeifdikkaaDoor
