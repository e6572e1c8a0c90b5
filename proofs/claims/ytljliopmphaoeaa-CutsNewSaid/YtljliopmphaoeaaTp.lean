/- The way of a header through a tree of cuts. -/
import Derived.Test.YtljliopmphaoeaaTm
namespace Go.Proofs.Ytljliopmphaoeaa
open Go Go.RowKit Go.Proofs.Ytljliopmphaoeaa.Q

/-- from a node of this depth a header comes to a leaf of that depth, which has this list -/
inductive Path (W : World) (ns : List Nd) (h : Hdr) : Nat → Nat → Nat → List Nat → Prop
  | leaf (i d : Nat) (nd : Nd) (m : List Nat) (h1 : ns[i]? = some nd) (h2 : nd.low = .nilFunc) (h3 : OwnN W 0 nd.list m) : Path W ns h i d d m
  | go (i d e : Nat) (nd : Nd) (m : List Nat) (f : Hdr → Bool) (h1 : ns[i]? = some nd) (h2 : LowAt W nd.low f) (t : Path W ns h (if f h = true then nd.k0 else nd.k1) (d + 1) e m) : Path W ns h i d e m
theorem Path.beyond {W W' : World} {ns : List Nd} {h : Hdr} {i d e : Nat} {m : List Nat} (k : Path W ns h i d e m) (hb : Below W.heap.size W W') : Path W' ns h i d e m := by
  induction k with
  | leaf i d nd m h1 h2 h3 => exact .leaf i d nd m h1 h2 (ownsRow_below h3 hb fun g hg => (h3.lt g hg).2)
  | go i d e nd m f h1 h2 t ih => exact .go i d e nd m f h1 (h2.below hb) ih
theorem Path.le {W : World} {ns : List Nd} {h : Hdr} {i d e : Nat} {m : List Nat} (k : Path W ns h i d e m) : d ≤ e := by
  induction k with
  | leaf => exact Nat.le_refl _
  | go i d e nd m f h1 h2 t ih => omega
/-- a header of a node's box comes to a leaf, and the first match is that of the node's rules -/
theorem Tree.path {W : World} {ns : List Nd} {bs : List Bx} {B D i : Nat} {b : Bx} {l : List Nat} {d : Nat} (t : Tree W ns bs B D i b l d) (hbs : ∀ x ∈ bs, x.ck = 0) (h : Hdr) (hh : b.has h = true) :
    ∃ e m, Path W ns h i d e m ∧ e ≤ D ∧ (m.length ≤ B ∨ e = D) ∧ m.find? (hitI bs h) = l.find? (hitI bs h) ∧ m.length ≤ l.length ∧ ∀ j ∈ m, j ∈ l := by
  induction t with
  | leaf i b l d nd h1 h2 h3 h4 h5 => exact ⟨d, l, .leaf i d nd l h1 h2 h3, h5, h4, rfl, Nat.le_refl _, fun j hj => hj⟩
  | cut i b l d nd f x y h1 h2 h3 h4 h6 t1 t2 ih1 ih2 =>
    cases hf : f h with
    | true =>
      have hx := h3.hx h hh hf
      obtain ⟨e, m, k1, k2, k3, k4, k5, k6⟩ := ih1 hx
      exact ⟨e, m, .go i d e nd m f h1 h2 (by rw [if_pos hf]; exact k1), k2, k3, k4.trans (inside_find bs hbs x h3.gx.ck h hx l), Nat.le_trans k5 (insideI_len bs x l), fun j hj => insideI_sub bs x l j (k6 j hj)⟩
    | false =>
      have hy := h3.hy h hh hf
      obtain ⟨e, m, k1, k2, k3, k4, k5, k6⟩ := ih2 hy
      exact ⟨e, m, .go i d e nd m f h1 h2 (by rw [if_neg (by simp [hf])]; exact k1), k2, k3, k4.trans (inside_find bs hbs y h3.gy.ck h hy l), Nat.le_trans k5 (insideI_len bs y l), fun j hj => insideI_sub bs y l j (k6 j hj)⟩
end Go.Proofs.Ytljliopmphaoeaa
