/- A line's end. -/
import Derived.BigRegion
import Derived.RegionTactic
import Derived.Test.YtghlfpeifdikkaaDoorScan
namespace Go.Proofs.YtghlfpeifdikkaaDoor
open Go.RowKit Go.Proofs.YtghlfpeifdikkaaDoor.Lex

def tkV (t : Tk) : Value := .agg #[.int .i64 t.kind, .string t.text, .int .u32 t.value, .int .i64 t.line, .int .i64 t.col]
/-- a token, and whether there is one -/
def TokOut (o : Option Tk) (e : Ending) : Prop := ∃ (k : Tk) (b : Bool), e = .returned (.tuple #[tkV k, .bool b]) ∧ o = if b = true then some k else none
def noTk : Tk := ⟨0, ⟨#[]⟩, 0, 0, 0⟩

theorem Blk.ne {w : World} {A B : Nat} {c d : Array Value} {T U : TypeId} (h : Blk w A c T) (k : Blk w B d U) (hne : T ≠ U) : A ≠ B := by
  intro e
  subst e
  have := (show w.heap[A]? = _ from h).symm.trans k
  simp at this
  exact hne this.2
theorem Scan.other {w : World} {B R : Nat} {s : ByteArray} {t : St} {told : Value} {n : Nat} {p : Value} {c : Array Value} (h : Scan w B s t told n p) (hR : Blk w R c 38) (i : Nat) (v : Value) : Scan (w.setCell ⟨R, i, none⟩ v) B s t told n p := by
  refine ⟨h.blk.other _ (h.blk.ne hR (by decide)), ?_⟩
  rcases h.wr with h1 | ⟨h1, F, h2, h3, h4⟩
  · exact .inl h1
  · exact .inr ⟨h1, F, h2, h3, h4.other _ (h4.ne hR (by decide))⟩
def putTk (w : World) (R : Nat) (k l : Int) (x : ByteArray) (v c : Int) : World := ((((w.setCell ⟨R, 0, none⟩ (.int .i64 k)).setCell ⟨R, 1, none⟩ (.string x)).setCell ⟨R, 2, none⟩ (.int .u32 v)).setCell ⟨R, 3, none⟩ (.int .i64 l)).setCell ⟨R, 4, none⟩ (.int .i64 c)
theorem Scan.putTk {w : World} {B R : Nat} {s : ByteArray} {t : St} {told : Value} {n : Nat} {p : Value} {c : Array Value} (h : Scan w B s t told n p) (hR : Blk w R c 38) (k l : Int) (x : ByteArray) (v d : Int) : Scan (putTk w R k l x v d) B s t told n p :=
  ((((h.other hR 0 _).other (hR.set 0 _) 1 _).other ((hR.set 0 _).set 1 _) 2 _).other (((hR.set 0 _).set 1 _).set 2 _) 3 _).other ((((hR.set 0 _).set 1 _).set 2 _).set 3 _) 4 _
theorem Only.putTk {w w1 : World} {S : Nat → Prop} (h : Only w w1 S) (R : Nat) (hR : R < w.heap.size → S R) (k l : Int) (x : ByteArray) (v d : Int) : Only w (putTk w1 R k l x v d) S :=
  ((((h.setCell ⟨R, 0, none⟩ _ hR).setCell ⟨R, 1, none⟩ _ hR).setCell ⟨R, 2, none⟩ _ hR).setCell ⟨R, 3, none⟩ _ hR).setCell ⟨R, 4, none⟩ _ hR
theorem two_new (X : World) (N : Nat) (hN : X.heap.size = N) (c1 c2 : Array Value) (T U : TypeId) : Blk ((X.alloc (.cells c1 T)).alloc (.cells c2 U)) N c1 T ∧ Blk ((X.alloc (.cells c1 T)).alloc (.cells c2 U)) (N + 1) c2 U := by
  subst hN
  refine ⟨(Blk.new X c1 T).alloc _, ?_⟩
  have := Blk.new (X.alloc (.cells c1 T)) c2 U
  rwa [World.size_alloc] at this
def next3 (w : World) (B : Nat) (t : St) : World := ((w.setCell ⟨B, 1, none⟩ (.int .i64 ((t.at' : Int) + 1))).setCell ⟨B, 2, none⟩ (.int .i64 ((t.line : Int) + 1))).setCell ⟨B, 3, none⟩ (.int .i64 ((t.at' : Int) + 1))
theorem next3_size (w : World) (B : Nat) (t : St) : (next3 w B t).heap.size = w.heap.size := by simp [next3]
theorem next3_only (w : World) (B : Nat) (t : St) : Only w (next3 w B t) (· = B) :=
  (((Only.refl w (· = B)).setCell ⟨B, 1, none⟩ _ (fun _ => rfl)).setCell ⟨B, 2, none⟩ _ (fun _ => rfl)).setCell ⟨B, 3, none⟩ _ (fun _ => rfl)
theorem next3_scan {w : World} {B : Nat} {s : ByteArray} {t : St} {told : Value} {n : Nat} {p : Value} (h : Scan w B s t told n p) (hp : p = .pointer none) : Scan (next3 w B t) B s ⟨t.at' + 1, t.line + 1, t.at' + 1, t.wrong⟩ told n p := by
  refine ⟨((h.blk.set 1 _).set 2 _).set 3 _, ?_⟩
  rcases h.wr with h1 | ⟨_, F, h2, _⟩
  · exact .inl h1
  · rw [hp] at h2; cases h2
theorem Scan.alloc {w : World} {B : Nat} {s : ByteArray} {t : St} {told : Value} {n : Nat} {p : Value} (h : Scan w B s t told n p) (o : Obj) : Scan (w.alloc o) B s t told n p := h.below ((Below.refl _ _).alloc (Nat.le_refl _) o)
theorem Scan.drew {w : World} {B : Nat} {s : ByteArray} {t : St} {told : Value} {n : Nat} {p : Value} (h : Scan w B s t told n p) : Scan w.drew B s t told n p := ⟨h.blk, h.wr⟩

/-- one field of the scanner is written: the bytes it has gone, or where the line begins -/
theorem Wrong.none {w w1 : World} {B : Nat} {x : Wr} (h : Wrong w B x (.pointer none)) : Wrong w1 B x (.pointer none) := by
  rcases h with h1 | ⟨_, F, h2, _⟩
  · exact .inl h1
  · cases h2
theorem Scan.begin {w : World} {B : Nat} {s : ByteArray} {t : St} {told : Value} {n : Nat} (h : Scan w B s t told n (.pointer none)) : Scan (w.setCell ⟨B, 3, none⟩ (.int .i64 t.at')) B s { t with begin' := t.at' } told n (.pointer none) :=
  ⟨h.blk.set 3 _, h.wr.none⟩
theorem Scan.goto {w : World} {B : Nat} {s : ByteArray} {t : St} {told : Value} {n : Nat} (h : Scan w B s t told n (.pointer none)) (i : Nat) : Scan (w.setCell ⟨B, 1, none⟩ (.int .i64 i)) B s { t with at' := i } told n (.pointer none) :=
  ⟨h.blk.set 1 _, h.wr.none⟩
set_option maxHeartbeats 4000000 in
set_option maxRecDepth 100000 in
theorem ends_any (w : World) (B : Nat) (s : ByteArray) (t : St) (told : Value) (n : Nat) (hs : s.size ≤ 140737488351232) (hS : Scan w B s t told n (.pointer none)) (hi : t.at' ≤ s.size) (hb : t.begin' ≤ t.at') (hl : t.line ≤ 140737488351234) :
    Calls Tryd.prog 41 #[.pointer (some ⟨B, 0, none⟩)] w fun e w' => TokOut (Lex.ends s t).1 e ∧ Went w B s (Lex.ends s t).2 told n w' := by
  have HS := Sd.mk hS
  have hblk := hS.blk
  unfold scanC at hblk
  have c0 := hblk.cell (i := 0) rfl
  have c1 := hblk.cell (i := 1) rfl
  have c2 := hblk.cell (i := 2) rfl
  have c3 := hblk.cell (i := 3) rfl
  have cf := hblk.frozen
  have hlt := hblk.lt
  clear hblk hS
  rcases Nat.lt_or_ge t.at' s.size with hlt2 | hge
  · go_enter Tryd.func41, Tryd.ntmps41
    go_wp2
    go_region
    have e1 : ((t.at' : Int) == s.size) = false := by simp; omega
    go_wp2
    go_region
    go_wp2_with fail
    refine (measure_any _ B s ⟨t.at' + 1, t.line + 1, t.at' + 1, t.wrong⟩ told n hs (((next3_scan HS.out rfl).alloc _).alloc _).drew.drew (by simp only; omega)).mono ?_
    rintro e w1 ⟨rfl, ⟨p, hs1⟩, ho1⟩
    obtain ⟨hR, hT⟩ := two_new (next3 w B t) w.heap.size (next3_size w B t) #[.int .i64 0, .string ⟨#[]⟩, .int .u32 0, .int .i64 0, .int .i64 0] #[.int .i64 4, .string ⟨#[10]⟩, .int .u32 0, .int .i64 t.line, .int .i64 ((t.at' : Int) - t.begin' + 1)] 38 38
    have hR1 := hR.drew.drew.only ho1 (by omega)
    have hT1 := hT.drew.drew.only ho1 (by omega)
    have HO := Sd.mk ((((next3_only w B t).alloc _).alloc _).drew.drew.trans ho1 (fun _ _ h => h))
    have HS1 := Sd.mk hs1
    have HR := Sd.mk hR1
    have a0 := hT1.cell (i := 0) rfl
    have a1 := hT1.cell (i := 1) rfl
    have a2 := hT1.cell (i := 2) rfl
    have a3 := hT1.cell (i := 3) rfl
    have a4 := hT1.cell (i := 4) rfl
    have b0 := hR1.cell (i := 0) rfl
    have b1 := hR1.cell (i := 1) rfl
    have b2 := hR1.cell (i := 2) rfl
    have b3 := hR1.cell (i := 3) rfl
    have b4 := hR1.cell (i := 4) rfl
    have bf := hR1.frozen
    have bl := hR1.lt
    clear hR hT hR1 hT1 ho1 hs1 c0 c1 c2 c3 cf
    go_wp2
    have hE : Lex.ends s t = (some ⟨4, ⟨#[10]⟩, 0, t.line, t.at' - t.begin' + 1⟩, Lex.measure s ⟨t.at' + 1, t.line + 1, t.at' + 1, t.wrong⟩) := by
      unfold Lex.ends; rw [if_neg (by omega)]
    have hcol : ((t.at' : Int) - t.begin' + 1) = ((t.at' - t.begin' + 1 : Nat) : Int) := by omega
    refine bodyPost_ret (v := .tuple #[.agg #[.int .i64 4, .string ⟨#[10]⟩, .int .u32 0, .int .i64 t.line, .int .i64 ((t.at' : Int) - t.begin' + 1)], .bool true]) ?_ rfl ⟨⟨⟨4, ⟨#[10]⟩, 0, t.line, t.at' - t.begin' + 1⟩, true, ?_, ?_⟩, ⟨p, ?_⟩, ?_⟩
    · simp [results, Tryd.results41, go_sem, b0, b1, b2, b3, b4]
    · rw [hcol]; rfl
    · rw [hE]; rfl
    · rw [hE]; exact HS1.out.putTk HR.out _ _ _ _ _
    · exact HO.out.putTk _ (fun h => by omega) _ _ _ _ _
  · have hat : t.at' = s.size := by omega
    have hR : Blk (w.alloc (.cells #[.int .i64 0, .string ⟨#[]⟩, .int .u32 0, .int .i64 0, .int .i64 0] 38)) w.heap.size #[.int .i64 0, .string ⟨#[]⟩, .int .u32 0, .int .i64 0, .int .i64 0] 38 := Blk.new _ _ _
    have e1 : ((t.at' : Int) == s.size) = true := by simp; omega
    by_cases hbg : t.at' = t.begin'
    · have e2 : ((t.at' : Int) == t.begin') = true := by simp; omega
      have hE : Lex.ends s t = (none, t) := by unfold Lex.ends; rw [if_pos hat, if_pos hbg]
      have HE := Sd.mk hE
      clear hE hat hbg hge hR
      go_enter Tryd.func41, Tryd.ntmps41
      go_wp2
      go_region
      go_wp2
      go_region
      go_wp2
      go_region
      go_wp2
      refine bodyPost_ret (v := .tuple #[.agg #[.int .i64 0, .string ⟨#[]⟩, .int .u32 0, .int .i64 0, .int .i64 0], .bool false]) ?_ rfl ⟨⟨noTk, false, rfl, by rw [HE.out]; rfl⟩, ⟨_, by rw [HE.out]; exact ((HS.out.alloc _).alloc _).drew.drew.drew⟩, (((Only.refl w (· = B)).alloc _).alloc _).drew.drew.drew⟩
      simp [results, Tryd.results41, go_sem]
    · have e2 : ((t.at' : Int) == t.begin') = false := by simp; omega
      have hE : Lex.ends s t = (some ⟨4, ⟨#[]⟩, 0, t.line, t.at' - t.begin' + 1⟩, { t with begin' := t.at' }) := by unfold Lex.ends; rw [if_pos hat, if_neg hbg]; rfl
      have HE := Sd.mk hE
      clear hE hat hbg hge hR
      go_enter Tryd.func41, Tryd.ntmps41
      go_wp2
      go_region
      go_wp2
      go_region
      go_wp2
      go_region
      go_wp2
      have hcol : ((t.at' : Int) - t.begin' + 1) = ((t.at' - t.begin' + 1 : Nat) : Int) := by omega
      refine bodyPost_ret (v := .tuple #[.agg #[.int .i64 4, .string ⟨#[]⟩, .int .u32 0, .int .i64 t.line, .int .i64 ((t.at' : Int) - t.begin' + 1)], .bool true]) ?_ rfl ⟨⟨⟨4, ⟨#[]⟩, 0, t.line, t.at' - t.begin' + 1⟩, true, by rw [hcol]; rfl, by rw [HE.out]; rfl⟩, ⟨_, by rw [HE.out]; exact ((HS.out.begin.alloc _).alloc _).drew.drew.drew⟩, ((((Only.refl w (· = B)).setCell ⟨B, 3, none⟩ _ (fun _ => rfl)).alloc _).alloc _).drew.drew.drew⟩
      simp [results, Tryd.results41, go_sem]
end Go.Proofs.YtghlfpeifdikkaaDoor
