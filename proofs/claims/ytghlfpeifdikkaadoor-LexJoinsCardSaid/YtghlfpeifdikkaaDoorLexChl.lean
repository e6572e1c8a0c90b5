/- Whether a word or sign may be; and any token. -/
import Derived.Test.YtghlfpeifdikkaaDoorLexChk
namespace Go.Proofs.YtghlfpeifdikkaaDoor
open Go.RowKit Go.Proofs.YtghlfpeifdikkaaDoor.Lex

theorem bad_word (t : St) (x : ByteArray) (l c : Nat) (h : 16 < x.size) : chkTk ⟨1, x, 0, l, c⟩ = none ∧ chkSt t ⟨1, x, 0, l, c⟩ = { t with wrong := ⟨92, l, c⟩ } := by
  have hb : badT 1 x = 92 := by unfold badT; rw [if_pos ⟨rfl, h⟩]
  unfold chkTk chkSt
  simp only [hb]
  exact ⟨if_neg (by omega), if_neg (by omega)⟩
theorem good_other (t : St) (k : Nat) (x : ByteArray) (l c : Nat) (hk : k ≠ 2) (h : ¬ (k = 1 ∧ 16 < x.size)) : chkTk ⟨k, x, 0, l, c⟩ = some ⟨k, x, 0, l, c⟩ ∧ chkSt t ⟨k, x, 0, l, c⟩ = t := by
  have hb : badT k x = 0 := by unfold badT; rw [if_neg h, if_neg (by omega)]
  unfold chkTk chkSt
  simp only [hb]
  exact ⟨by rw [if_pos trivial, if_neg hk], rfl⟩
set_option maxHeartbeats 4000000 in
set_option maxRecDepth 100000 in
theorem checked_other (w : World) (B : Nat) (s : ByteArray) (t : St) (told : Value) (n : Nat) (k : Nat) (x : ByteArray) (l c : Nat) (hS : Scan w B s t told n (.pointer none)) (hk : k = 1 ∨ k = 3) :
    Calls Tryd.prog 40 #[.pointer (some ⟨B, 0, none⟩), tkV ⟨k, x, 0, l, c⟩] w fun e w' => TokOut (chkTk ⟨k, x, 0, l, c⟩) e ∧ Went w B s (chkSt t ⟨k, x, 0, l, c⟩) told n w' := by
  have HS := Sd.mk hS
  have hblk := hS.blk
  unfold scanC at hblk
  have c6 := hblk.cell (i := 6) rfl
  have cf := hblk.frozen
  have hlt := hblk.lt
  have hlt1 : B < w.heap.size + 1 := by omega
  have hlt2 : B < w.heap.size + 1 + 1 := by omega
  clear hblk hS
  unfold tkV
  rcases hk with rfl | rfl
  · by_cases h16 : 16 < x.size
    · go_enter Tryd.func40, Tryd.ntmps40
      go_wp2
      go_region
      go_wp2
      refine bodyPost_ret (v := .tuple #[.agg #[.int .i64 1, .string x, .int .u32 0, .int .i64 l, .int .i64 c], .bool false]) ?_ rfl ⟨⟨⟨1, x, 0, l, c⟩, false, rfl, by rw [(bad_word t x l c h16).1]; rfl⟩, ⟨_, by rw [(bad_word t x l c h16).2]; exact (fault_new (((HS.out.blk.set 6 _).alloc _).alloc _) (by simp) ⟨92, l, c⟩ (by simp)).drew⟩, (((((Only.refl w (· = B)).setCell ⟨B, 6, none⟩ _ (fun _ => rfl)).alloc _).alloc _).alloc _).drew⟩
      simp [results, Tryd.results40, go_sem]
    · go_enter Tryd.func40, Tryd.ntmps40
      go_wp2
      go_region
      go_wp2
      refine bodyPost_ret (v := .tuple #[.agg #[.int .i64 1, .string x, .int .u32 0, .int .i64 l, .int .i64 c], .bool true]) ?_ rfl ⟨⟨⟨1, x, 0, l, c⟩, true, rfl, by rw [(good_other t 1 x l c (by omega) (by omega)).1]; rfl⟩, ⟨_, by rw [(good_other t 1 x l c (by omega) (by omega)).2]; exact ((HS.out.alloc _).alloc _).drew⟩, (((Only.refl w (· = B)).alloc _).alloc _).drew⟩
      simp [results, Tryd.results40, go_sem]
  · go_enter Tryd.func40, Tryd.ntmps40
    go_wp2
    go_region
    go_wp2
    refine bodyPost_ret (v := .tuple #[.agg #[.int .i64 3, .string x, .int .u32 0, .int .i64 l, .int .i64 c], .bool true]) ?_ rfl ⟨⟨⟨3, x, 0, l, c⟩, true, rfl, by rw [(good_other t 3 x l c (by omega) (by omega)).1]; rfl⟩, ⟨_, by rw [(good_other t 3 x l c (by omega) (by omega)).2]; exact ((HS.out.alloc _).alloc _).drew⟩, (((Only.refl w (· = B)).alloc _).alloc _).drew⟩
    simp [results, Tryd.results40, go_sem]
theorem checked_any (w : World) (B : Nat) (s : ByteArray) (t : St) (told : Value) (n : Nat) (k : Nat) (x : ByteArray) (l c : Nat) (hx : x.size ≤ 140737488351232) (hS : Scan w B s t told n (.pointer none)) (hk : k ≠ 0) (hk4 : k < 4) (hd : k = 2 → ∀ j, j < x.size → 48 ≤ at_ x j ∧ at_ x j ≤ 57) :
    Calls Tryd.prog 40 #[.pointer (some ⟨B, 0, none⟩), tkV ⟨k, x, 0, l, c⟩] w fun e w' => TokOut (chkTk ⟨k, x, 0, l, c⟩) e ∧ Went w B s (chkSt t ⟨k, x, 0, l, c⟩) told n w' := by
  by_cases h2 : k = 2
  · subst h2; exact checked_num w B s t told n x l c hx hS (hd rfl)
  · exact checked_other w B s t told n k x l c hS (by omega)
end Go.Proofs.YtghlfpeifdikkaaDoor
