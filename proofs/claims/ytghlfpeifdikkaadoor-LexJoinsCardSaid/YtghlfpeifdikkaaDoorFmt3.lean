/- A fault's text: it hangs on its numbers and the library's table alone. -/
import Derived.Test.YtghlfpeifdikkaaDoorFmt2
import Derived.Deep.RegionWith
import Derived.Deep.RegionHeld3
namespace Go.Proofs.YtghlfpeifdikkaaDoor
open Go Go.RowKit Go.Sort Go.Lib Go.Shelf

set_option maxHeartbeats 4000000 in
/-- a fault's text hangs on its numbers and the table alone -/
theorem error_any (z : Nat → Int) (x : Lex.Wr) (h1 : x.code < 100000) (h2 : x.line < 100000) (h3 : x.col < 100000) : ∃ X : ByteArray, ∀ (w : World) (F : Nat), 1 < w.heap.size → TabAny w z → Blk w F #[.int .i64 x.code, .int .i64 x.line, .int .i64 x.col] 59 →
    Calls Tryd.prog 76 #[.pointer (some ⟨F, 0, none⟩)] w fun e w' => e = .returned (.string X) ∧ Below w.heap.size w w' := by
  have mixed := Go.Proofs.Tryd.lays129.mixed
  obtain ⟨c, l, k⟩ := x
  simp only at h1 h2 h3 ⊢
  obtain ⟨X1, s1, hX1⟩ := itoa_any z l h2
  obtain ⟨X2, s2, hX2⟩ := itoa_any z k h3
  obtain ⟨X3, s3, hX3⟩ := itoa_any z c h1
  refine ⟨⟨#[108, 105, 110, 101, 32]⟩ ++ X1 ++ ⟨#[44, 32, 99, 111, 108, 117, 109, 110, 32]⟩ ++ X2 ++ ⟨#[58, 32, 101, 114, 114, 111, 114, 32]⟩ ++ X3, fun w F hg hz hB => ?_⟩
  have f0 := hB.cell (i := 0) rfl
  have f1 := hB.cell (i := 1) rfl
  have f2 := hB.cell (i := 2) rfl
  have all : ∀ (n : Nat) (X : ByteArray), (∀ w : World, 1 < w.heap.size → TabAny w z → Calls Tryd.prog 62 #[.int .i64 n] w fun e w' => e = .returned (.string X) ∧ Below w.heap.size w w') →
      ∀ W, Below w.heap.size w W → Calls Tryd.prog 62 #[.int .i64 n] W fun e w' => e = .returned (.string X) ∧ Below w.heap.size w w' ∧ w'.cell? ⟨F, 0, none⟩ = some (.int .i64 c) ∧ w'.cell? ⟨F, 1, none⟩ = some (.int .i64 l) ∧ w'.cell? ⟨F, 2, none⟩ = some (.int .i64 k) := by
    intro n X hX W hW
    refine (hX W (Nat.lt_of_lt_of_le hg hW.size) (hz.below hW hg)).mono fun e w' ⟨he, hb⟩ => ?_
    have hb2 := hW.trans (hb.mono hW.size)
    have hB2 := hB.below hb2 hB.lt
    exact ⟨he, hb2, hB2.cell (i := 0) rfl, hB2.cell (i := 1) rfl, hB2.cell (i := 2) rfl⟩
  have K1 := Sd.mk (all l X1 hX1)
  have K2 := Sd.mk (all k X2 hX2)
  have K3 := Sd.mk (all c X3 hX3)
  have HB0 : Below w.heap.size w w.drew := (Below.refl _ _).drew
  clear hX1 hX2 hX3 hB hz all
  have t1 : ¬ 9223372036854775807 < 5 + X1.size := by omega
  have t2 : ¬ 9223372036854775807 < 5 + X1.size + 9 := by omega
  have t3 : ¬ 9223372036854775807 < 5 + X1.size + 9 + X2.size := by omega
  have t4 : ¬ 9223372036854775807 < 5 + X1.size + 9 + X2.size + 8 := by omega
  have t5 : ¬ 9223372036854775807 < 5 + X1.size + 9 + X2.size + 8 + X3.size := by omega
  clear s1 s2 s3
  go_enter Tryd.func76, Tryd.ntmps76
  go_wp2
  go_region_held3 (fun W => Below w.heap.size w W ∧ W.cell? ⟨F, 0, none⟩ = some (.int .i64 c) ∧ W.cell? ⟨F, 1, none⟩ = some (.int .i64 l) ∧ W.cell? ⟨F, 2, none⟩ = some (.int .i64 k))
    (first | (exact ⟨‹_›, ‹_›, ‹_›, ‹_›⟩) | (exact ⟨HB0, ‹_›, ‹_›, ‹_›⟩) | go_keep)
    (first
      | (go_at_call_of 62 (Value.int IntKind.i64 (l : Int)); refine (K1.out _ ?_).mono ?_; (go_split_ands; assumption); rintro e w1 ⟨rfl, hb, g0, g1, g2⟩)
      | (go_at_call_of 62 (Value.int IntKind.i64 (k : Int)); refine (K2.out _ ?_).mono ?_; (go_split_ands; assumption); rintro e w2 ⟨rfl, hb, g0, g1, g2⟩)
      | (go_at_call_of 62 (Value.int IntKind.i64 (c : Int)); refine (K3.out _ ?_).mono ?_; (go_split_ands; assumption); rintro e w3 ⟨rfl, hb, g0, g1, g2⟩))
  go_wp2
  go_ret
  exact ⟨rfl, ‹_›⟩
end Go.Proofs.YtghlfpeifdikkaaDoor
