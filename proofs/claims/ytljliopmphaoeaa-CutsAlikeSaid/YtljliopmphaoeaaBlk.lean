/- A block of memory that is known whole. -/
import Derived.RangeFuncBox
import Derived.RangeFuncRecord
import Derived.Below
import Derived.Laws.AppendOwn
import Derived.Deep.QuietTactic
import Derived.BigQuiet
namespace Go.Proofs.Ytljliopmphaoeaa
open Go Go.RowKit

/-- block B holds these cells -/
def Blk (W : World) (B : Nat) (cs : Array Value) (t : TypeId) : Prop := W.heap[B]? = some (.cells cs t (0, 0))
section
variable {W : World} {B : Nat} {cs : Array Value} {t : TypeId}
theorem Blk.lt (h : Blk W B cs t) : B < W.heap.size := (Array.getElem?_eq_some_iff.1 h).1
theorem Blk.at (h : Blk W B cs t) (i : Nat) : W.cell? ⟨B, i, none⟩ = cs[i]? := by simp [World.cell?, show W.heap[B]? = _ from h]
theorem Blk.cell (h : Blk W B cs t) {i : Nat} {v : Value} (hi : cs[i]? = some v) : W.cell? ⟨B, i, none⟩ = some v := by rw [h.at, hi]
theorem Blk.frozen (h : Blk W B cs t) (i : Nat) : W.frozen? ⟨B, i, none⟩ = false := by simp [World.frozen?, show W.heap[B]? = _ from h]
theorem Blk.new (W : World) (cs : Array Value) (t : TypeId) : Blk (W.alloc (.cells cs t)) W.heap.size cs t := World.alloc_heap_new W _
theorem Blk.alloc (h : Blk W B cs t) (o : Obj) : Blk (W.alloc o) B cs t := (Below.heap_alloc W o B h.lt).trans h
theorem Blk.drew (h : Blk W B cs t) : Blk W.drew B cs t := h
theorem Blk.drewN (h : Blk W B cs t) (n : Nat) : Blk (W.drewN n) B cs t := h
theorem Blk.kept {W' : World} {row : Option Nat} (h : Blk W B cs t) (hg : W.grownBy W' row) (hne : some B ≠ row) : Blk W' B cs t := (hg.block B h.lt hne).trans h
theorem Blk.below {W' : World} {L : Nat} (h : Blk W B cs t) (hb : Below L W W') (hL : B < L) : Blk W' B cs t := (hb.block B hL).trans h
theorem Blk.other (h : Blk W B cs t) {a : Addr} (v : Value) (hne : B ≠ a.block) : Blk (W.setCell a v) B cs t := (Below.heap_setCell W a v B hne).trans h
theorem Blk.set (h : Blk W B cs t) (i : Nat) (v : Value) : Blk (W.setCell ⟨B, i, none⟩ v) B (cs.setIfInBounds i v) t := by
  obtain ⟨hlt, hk⟩ := Array.getElem?_eq_some_iff.1 h
  show (W.heap.modify B _)[B]? = _
  rw [Array.getElem?_eq_getElem (by rw [Array.size_modify]; exact hlt), Array.getElem_modify_self, hk]
  rfl
end
theorem Below.drewN {B n : Nat} {a w : World} (h : Below B a w) : Below B a (w.drewN n) := ⟨h.os, h.tape, h.output, h.size, h.block⟩
theorem ownsRow_mono {w : World} {base base' : Nat} {e : TypeId} {size : Nat} {v : Value} {n : Nat} {xs : List Value} (h : w.ownsRow base e size v n xs) (hb : base' ≤ base) : w.ownsRow base' e size v n xs := by
  obtain ⟨h1, h2⟩ := h
  refine ⟨h1, ?_⟩
  rcases h2 with h2 | ⟨g, cap, cur, r1, r2, r⟩
  · exact .inl h2
  · exact .inr ⟨g, cap, cur, r1, Nat.le_trans hb r2, r⟩
theorem ownsRow_below {w w' : World} {base L : Nat} {e : TypeId} {size : Nat} {v : Value} {n : Nat} {xs : List Value} (h : w.ownsRow base e size v n xs) (hb : Below L w w') (hL : ∀ g, v.ownBlock = some g → g < L) : w'.ownsRow base e size v n xs := by
  obtain ⟨h1, h2⟩ := h
  refine ⟨h1, ?_⟩
  rcases h2 with h2 | ⟨g, cap, cur, rfl, r2, r3, r⟩
  · exact .inl h2
  · exact .inr ⟨g, cap, cur, rfl, r2, (hb.block g (hL g rfl)).trans r3, r⟩
/-- what is made anew or written at home leaves all below as it was -/
theorem below_grow {L : Nat} {V V' : World} {row : Option Nat} (hg : V.grownBy V' row) (hL : L ≤ V.heap.size) (hr : ∀ r, row = some r → L ≤ r) : Below L V V' := (Below.refl L V).grown hg hL hr
end Go.Proofs.Ytljliopmphaoeaa
