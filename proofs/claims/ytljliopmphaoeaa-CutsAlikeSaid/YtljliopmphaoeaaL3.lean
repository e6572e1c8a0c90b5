/- The document's examples. -/
import Derived.Test.YtljliopmphaoeaaL2
namespace Go.Proofs.Ytljliopmphaoeaa
open Go Go.RowKit Go.Proofs.Ytljliopmphaoeaa.Q
def exC : Cfg := ⟨10, 1, 100, 100, 100, 4, 8⟩
def rA : Rul := ⟨1, ⟨167772160, 8⟩, ⟨0, 0⟩, ⟨0, 65535⟩, ⟨0, 65535⟩, ⟨0, 0⟩, 2⟩
def rB : Rul := ⟨2, ⟨0, 0⟩, ⟨167772160, 8⟩, ⟨0, 65535⟩, ⟨0, 65535⟩, ⟨0, 0⟩, 3⟩
def h1 : Hdr := ⟨167772169, 167772160, 0, 0, 0⟩
def h2 : Hdr := ⟨150994944, 167772160, 0, 0, 0⟩
def h3 : Hdr := ⟨150994944, 150994944, 0, 0, 0⟩
theorem exC_ok : exC.ck = 0 := by decide
instance (n : Int) : Decidable (I64 n) := inferInstanceAs (Decidable (_ ∧ _))
theorem rA_wf : rA.Wf := ⟨by decide, ⟨by decide, by decide⟩, ⟨by decide, by decide⟩, ⟨by decide, by decide⟩, ⟨by decide, by decide⟩, ⟨by decide, by decide⟩, by decide⟩
theorem rB_wf : rB.Wf := ⟨by decide, ⟨by decide, by decide⟩, ⟨by decide, by decide⟩, ⟨by decide, by decide⟩, ⟨by decide, by decide⟩, ⟨by decide, by decide⟩, by decide⟩
theorem h1_wf : h1.Wf := ⟨by decide, by decide, by decide, by decide, by decide⟩
theorem h2_wf : h2.Wf := ⟨by decide, by decide, by decide, by decide, by decide⟩
theorem h3_wf : h3.Wf := ⟨by decide, by decide, by decide, by decide, by decide⟩
theorem ins1 : insI exC [] 0 rA = 0 := by decide +kernel
theorem ins2 : insI exC [rA] 1 rB = 0 := by decide +kernel
theorem ins3 : insI exC [rA, rB] 0 rA = 111 := by decide +kernel
theorem find1 : [rA, rB].find? (fun r => r.hit h1) = some rA := by
  have : rA.hit h1 = true := by decide +kernel
  rw [List.find?_cons, this]
theorem find2 : [rA, rB].find? (fun r => r.hit h2) = some rB := by
  have e1 : rA.hit h2 = false := by decide +kernel
  have e2 : rB.hit h2 = true := by decide +kernel
  rw [List.find?_cons, e1, List.find?_cons, e2]
theorem find3 : [rA, rB].find? (fun r => r.hit h3) = none := by
  have e1 : rA.hit h3 = false := by decide +kernel
  have e2 : rB.hit h3 = false := by decide +kernel
  rw [List.find?_cons, e1, List.find?_cons, e2]; rfl
set_option maxHeartbeats 1000000 in
set_option maxRecDepth 100000 in
theorem every_any (id a : Int) (w : World) : Calls Try.prog 26 #[.int .i64 id, .int .i64 a] w fun e w' => e = .returned (.agg #[.int .i64 id, .int .u32 0, .int .i64 0, .int .u32 0, .int .i64 0, .int .u16 0, .int .u16 65535, .int .u16 0, .int .u16 65535, .int .u8 0, .int .u8 0, .int .i64 a]) ∧ Below w.heap.size w w' := by
  go_enter Try.func26, Try.ntmps26
  go_wp2
  refine bodyPost_ret (v := .agg #[.int .i64 id, .int .u32 0, .int .i64 0, .int .u32 0, .int .i64 0, .int .u16 0, .int .u16 65535, .int .u16 0, .int .u16 65535, .int .u8 0, .int .u8 0, .int .i64 a]) (by simp [results, Try.results26, go_sem, *]) rfl ⟨rfl, ?_⟩
  exact below_alloc (Below.refl _ _) _
set_option maxHeartbeats 1000000 in
set_option maxRecDepth 100000 in
theorem example_any (w : World) : Calls Try.prog 19 #[] w fun e w' => e = .returned (.agg #[.int .i64 10, .int .i64 1, .int .i64 100, .int .i64 100, .int .i64 100, .int .i64 4, .int .i64 8]) ∧ Below w.heap.size w w' := by
  go_enter Try.func19, Try.ntmps19
  go_wp2
  refine bodyPost_ret (v := .agg #[.int .i64 10, .int .i64 1, .int .i64 100, .int .i64 100, .int .i64 100, .int .i64 4, .int .i64 8]) (by simp [results, Try.results19, go_sem, *]) rfl ⟨rfl, ?_⟩
  exact below_alloc (Below.refl _ _) _
theorem exNew (w : World) : Calls Try.prog 10 #[.agg #[.int .i64 10, .int .i64 1, .int .i64 100, .int .i64 100, .int .i64 100, .int .i64 4, .int .i64 8]] w fun e w' => ∃ E T base lv, e = .returned (.tuple #[.pointer (some ⟨E, 0, none⟩), .int .i64 0]) ∧ EngI w' E T base exC (.slice none 0 0) lv [] ∧ w.heap.size ≤ E ∧ w.heap.size ≤ T ∧ (∀ g, lv.ownBlock = some g → w.heap.size ≤ g) ∧ Below w.heap.size w w' := cutsNew_ok exC w exC_ok
theorem exIns1 {E T base : Nat} {tv lv : Value} {w : World} (k : EngI w E T base exC tv lv []) : Calls Try.prog 17 #[.pointer (some ⟨E, 0, none⟩), .int .i64 0, .agg #[.int .i64 1, .int .u32 167772160, .int .i64 8, .int .u32 0, .int .i64 0, .int .u16 0, .int .u16 65535, .int .u16 0, .int .u16 65535, .int .u8 0, .int .u8 0, .int .i64 2]] w fun e w' => e = .returned (.int .i64 0) ∧ ChgOut w E T base exC tv [rA] w' := engInsert_ok k 0 rA rA_wf ins1
theorem exIns2 {E T base : Nat} {tv lv : Value} {w : World} (k : EngI w E T base exC tv lv [rA]) : Calls Try.prog 17 #[.pointer (some ⟨E, 0, none⟩), .int .i64 1, .agg #[.int .i64 2, .int .u32 0, .int .i64 0, .int .u32 167772160, .int .i64 8, .int .u16 0, .int .u16 65535, .int .u16 0, .int .u16 65535, .int .u8 0, .int .u8 0, .int .i64 3]] w fun e w' => e = .returned (.int .i64 0) ∧ ChgOut w E T base exC tv [rA, rB] w' := engInsert_ok k 1 rB rB_wf ins2
theorem exIns3 {E T base : Nat} {tv lv : Value} {w : World} (k : EngI w E T base exC tv lv [rA, rB]) : Calls Try.prog 17 #[.pointer (some ⟨E, 0, none⟩), .int .i64 0, .agg #[.int .i64 1, .int .u32 167772160, .int .i64 8, .int .u32 0, .int .i64 0, .int .u16 0, .int .u16 65535, .int .u16 0, .int .u16 65535, .int .u8 0, .int .u8 0, .int .i64 2]] w fun e w' => e = .returned (.int .i64 111) ∧ Below w.heap.size w w' :=
  (engInsert_no k 0 rA rA_wf (by rw [ins3]; decide)).mono fun e w' h => ⟨by rw [h.1, ins3], h.2⟩
theorem exAsk1 {E T base : Nat} {tv lv : Value} {w : World} (k : EngI w E T base exC tv lv [rA, rB]) : ∃ a n d : Nat, 1 ≤ n ∧ ∀ W', Below w.heap.size w W' → Calls Try.prog 12 #[.pointer (some ⟨E, 0, none⟩), .agg #[.int .u32 167772169, .int .u32 167772160, .int .u16 0, .int .u16 0, .int .u8 0]] W' fun x w' => x = .returned (.tuple #[.agg #[.bool true, .int .i64 1, .int .i64 2], .agg #[.int .i64 a, .int .i64 n, .int .i64 d, .int .i64 0, .int .i64 0]]) ∧ Below W'.heap.size W' w' := by
  obtain ⟨e, n, _, _, _, q, K⟩ := k.asks h1 h1_wf
  refine ⟨e + 1, n, e, q (by rw [find1]; rfl), fun W' hb => (K W' hb).mono fun x w' h => ⟨h.1.trans ?_, h.2⟩⟩
  unfold matchC stepC
  rw [find1]
  rfl
theorem exAsk2 {E T base : Nat} {tv lv : Value} {w : World} (k : EngI w E T base exC tv lv [rA, rB]) : ∃ a n d : Nat, ∀ W', Below w.heap.size w W' → Calls Try.prog 12 #[.pointer (some ⟨E, 0, none⟩), .agg #[.int .u32 150994944, .int .u32 167772160, .int .u16 0, .int .u16 0, .int .u8 0]] W' fun x w' => x = .returned (.tuple #[.agg #[.bool true, .int .i64 2, .int .i64 3], .agg #[.int .i64 a, .int .i64 n, .int .i64 d, .int .i64 0, .int .i64 0]]) ∧ Below W'.heap.size W' w' := by
  obtain ⟨e, n, _, _, _, q, K⟩ := k.asks h2 h2_wf
  refine ⟨e + 1, n, e, fun W' hb => (K W' hb).mono fun x w' h => ⟨h.1.trans ?_, h.2⟩⟩
  unfold matchC stepC
  rw [find2]
  rfl
theorem exAsk3 {E T base : Nat} {tv lv : Value} {w : World} (k : EngI w E T base exC tv lv [rA, rB]) : ∃ a n d : Nat, ∀ W', Below w.heap.size w W' → Calls Try.prog 12 #[.pointer (some ⟨E, 0, none⟩), .agg #[.int .u32 150994944, .int .u32 150994944, .int .u16 0, .int .u16 0, .int .u8 0]] W' fun x w' => x = .returned (.tuple #[.agg #[.bool false, .int .i64 0, .int .i64 1], .agg #[.int .i64 a, .int .i64 n, .int .i64 d, .int .i64 0, .int .i64 0]]) ∧ Below W'.heap.size W' w' := by
  obtain ⟨e, n, _, _, _, q, K⟩ := k.asks h3 h3_wf
  refine ⟨e + 1, n, e, fun W' hb => (K W' hb).mono fun x w' h => ⟨h.1.trans ?_, h.2⟩⟩
  unfold matchC stepC
  rw [find3]
  rfl
end Go.Proofs.Ytljliopmphaoeaa
