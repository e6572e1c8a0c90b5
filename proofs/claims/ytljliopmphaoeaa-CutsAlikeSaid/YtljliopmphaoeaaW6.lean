/- inside: the walk. -/
import Derived.Test.YtljliopmphaoeaaMT
namespace Go.Proofs.Ytljliopmphaoeaa
open Go Go.RowKit Go.Proofs.Ytljliopmphaoeaa.Q

theorem infoInt : (Try.prog.info? 3).map (fun i => (i.zero, i.size, i.bytes)) = some (some (.int .i64 0), 1, 8) := by kernel_rfl
theorem row_ne {W : World} {base size n B : Nat} {e T : TypeId} {v : Value} {xs : List Value} {cs : Array Value} (h : W.ownsRow base e size v n xs) (hB : Blk W B cs T) (hT : T ≠ e) : some B ≠ v.ownBlock := by
  intro he
  rcases h.2 with ⟨rfl, _⟩ | ⟨g, cap, cur, rfl, _, h3, _⟩
  · cases he
  · simp only [Value.ownBlock, Option.some.injEq] at he
    subst he
    exact neTypes hB h3 hT rfl
structure InI (E : Nat) (bs : List Bx) (b : Bx) (l : List Nat) (w : World) (k : Nat) (v : Value) (W : World) : Prop where
  below : Below w.heap.size w W
  own : ∃ pre, OwnN W w.heap.size v pre ∧ insideI bs b l = pre ++ insideI bs b (l.drop k)
  box : Blk W w.heap.size #[.int .u32 b.src.lo, .int .u32 b.src.hi, .int .u32 b.dst.lo, .int .u32 b.dst.hi, .int .u16 b.sp.lo, .int .u16 b.sp.hi, .int .u16 b.dp.lo, .int .u16 b.dp.hi, .int .u8 b.pr.v, .int .u8 b.pr.c] 109
theorem InI.step {E : Nat} {bs : List Bx} {b : Bx} {l : List Nat} {w W W' : World} {k : Nat} {v : Value} (h : InI E bs b l w k v W) (hb : Below W.heap.size W W') (he : insideI bs b (l.drop k) = insideI bs b (l.drop (k + 1))) : InI E bs b l w (k + 1) v W' := by
  obtain ⟨pre, h1, h2⟩ := h.own
  exact ⟨beyond h.below hb, ⟨pre, ownsRow_below h1 hb fun g hg => (h1.lt g hg).2, by rw [h2, he]⟩, h.box.below hb h.box.lt⟩
/-- what the last test reads -/
def InsS (N : World) (E B g o j bl bcap : Nat) (b X : Bx) (W : World) : Prop := Below N.heap.size N W ∧ W.cell? ⟨E, 9, none⟩ = some (.slice (some ⟨g, o, none⟩) bl bcap) ∧ W.cell? ⟨B, 0, none⟩ = some (.int .u32 b.src.lo) ∧ W.cell? ⟨B, 1, none⟩ = some (.int .u32 b.src.hi) ∧ W.cell? ⟨B, 2, none⟩ = some (.int .u32 b.dst.lo) ∧ W.cell? ⟨B, 3, none⟩ = some (.int .u32 b.dst.hi) ∧ W.cell? ⟨B, 4, none⟩ = some (.int .u16 b.sp.lo) ∧ W.cell? ⟨B, 5, none⟩ = some (.int .u16 b.sp.hi) ∧ W.cell? ⟨B, 6, none⟩ = some (.int .u16 b.dp.lo) ∧ W.cell? ⟨B, 7, none⟩ = some (.int .u16 b.dp.hi) ∧ W.cell? ⟨B, 8, none⟩ = some (.int .u8 b.pr.v) ∧ W.cell? ⟨B, 9, none⟩ = some (.int .u8 b.pr.c) ∧ W.cell? ⟨g, o + j * 10, none⟩ = some (.int .u32 X.src.lo) ∧ W.cell? ⟨g, o + j * 10 + 1, none⟩ = some (.int .u32 X.src.hi) ∧ W.cell? ⟨g, o + j * 10 + 2, none⟩ = some (.int .u32 X.dst.lo) ∧ W.cell? ⟨g, o + j * 10 + 3, none⟩ = some (.int .u32 X.dst.hi) ∧ W.cell? ⟨g, o + j * 10 + 4, none⟩ = some (.int .u16 X.sp.lo) ∧ W.cell? ⟨g, o + j * 10 + 5, none⟩ = some (.int .u16 X.sp.hi) ∧ W.cell? ⟨g, o + j * 10 + 6, none⟩ = some (.int .u16 X.dp.lo) ∧ W.cell? ⟨g, o + j * 10 + 7, none⟩ = some (.int .u16 X.dp.hi) ∧ W.cell? ⟨g, o + j * 10 + 8, none⟩ = some (.int .u8 X.pr.v) ∧ W.cell? ⟨g, o + j * 10 + 9, none⟩ = some (.int .u8 X.pr.c)
theorem insS {N : World} {E B g o j bl bcap : Nat} {b X : Bx} (hE : N.cell? ⟨E, 9, none⟩ = some (.slice (some ⟨g, o, none⟩) bl bcap)) (hB : Blk N B #[.int .u32 b.src.lo, .int .u32 b.src.hi, .int .u32 b.dst.lo, .int .u32 b.dst.hi, .int .u16 b.sp.lo, .int .u16 b.sp.hi, .int .u16 b.dp.lo, .int .u16 b.dp.hi, .int .u8 b.pr.v, .int .u8 b.pr.c] 109) (hx : ∀ i u, #[.int .u32 X.src.lo, .int .u32 X.src.hi, .int .u32 X.dst.lo, .int .u32 X.dst.hi, .int .u16 X.sp.lo, .int .u16 X.sp.hi, .int .u16 X.dp.lo, .int .u16 X.dp.hi, .int .u8 X.pr.v, .int .u8 X.pr.c][i]? = some u → N.cell? ⟨g, o + j * 10 + i, none⟩ = some u) (W : World) (h : Below N.heap.size N W) : InsS N E B g o j bl bcap b X W := by
  have kk := hB.below h hB.lt
  have x0 := hx 0 _ rfl
  rw [Nat.add_zero] at x0
  exact ⟨h, (h.cell (World.block_lt_of_cell? N _ hE)).trans hE, kk.cell (i := 0) rfl, kk.cell (i := 1) rfl, kk.cell (i := 2) rfl, kk.cell (i := 3) rfl, kk.cell (i := 4) rfl, kk.cell (i := 5) rfl, kk.cell (i := 6) rfl, kk.cell (i := 7) rfl, kk.cell (i := 8) rfl, kk.cell (i := 9) rfl, (h.cell (World.block_lt_of_cell? N _ x0)).trans x0, (h.cell (World.block_lt_of_cell? N _ (hx 1 _ rfl))).trans (hx 1 _ rfl), (h.cell (World.block_lt_of_cell? N _ (hx 2 _ rfl))).trans (hx 2 _ rfl), (h.cell (World.block_lt_of_cell? N _ (hx 3 _ rfl))).trans (hx 3 _ rfl), (h.cell (World.block_lt_of_cell? N _ (hx 4 _ rfl))).trans (hx 4 _ rfl), (h.cell (World.block_lt_of_cell? N _ (hx 5 _ rfl))).trans (hx 5 _ rfl), (h.cell (World.block_lt_of_cell? N _ (hx 6 _ rfl))).trans (hx 6 _ rfl), (h.cell (World.block_lt_of_cell? N _ (hx 7 _ rfl))).trans (hx 7 _ rfl), (h.cell (World.block_lt_of_cell? N _ (hx 8 _ rfl))).trans (hx 8 _ rfl), (h.cell (World.block_lt_of_cell? N _ (hx 9 _ rfl))).trans (hx 9 _ rfl)⟩
set_option maxHeartbeats 2000000 in
set_option maxRecDepth 100000 in
theorem inside_any (E : Nat) (bs : List Bx) (BA : Option Addr) (bcap : Nat) (b : Bx) (l : List Nat) (LA : Option Addr) (lcap : Nat) (w : World) (hb : b.Wf) (hbs : ∀ x ∈ bs, x.Wf) (hl : ∀ i ∈ l, i < bs.length) (hlen : l.length ≤ 100)
    (hE : w.cell? ⟨E, 9, none⟩ = some (.slice BA bs.length bcap)) (hB : BoxesAt w BA bs) (hN : NumsAt w LA l) :
    Calls Try.prog 48 #[.pointer (some ⟨E, 0, none⟩), .agg #[.int .u32 b.src.lo, .int .u32 b.src.hi, .int .u32 b.dst.lo, .int .u32 b.dst.hi, .int .u16 b.sp.lo, .int .u16 b.sp.hi, .int .u16 b.dp.lo, .int .u16 b.dp.hi, .int .u8 b.pr.v, .int .u8 b.pr.c], .slice LA l.length lcap] w fun e w' => ∃ v, e = .returned v ∧ OwnN w' w.heap.size v (insideI bs b l) ∧ Below w.heap.size w w' := by
  have HB := Sd.mk hB
  have HN := Sd.mk hN
  have HE := Sd.mk hE
  have HBS := Sd.mk hbs
  have HL := Sd.mk hl
  obtain ⟨i0, hi, hz0, hz1, hz2⟩ := info_parts infoInt
  have HI0 := Sd.mk (And.intro hi (And.intro hz0 (And.intro hz1 hz2)))
  clear hB hN hE hbs hl hi hz0 hz1 hz2
  go_enter Try.func48, Try.ntmps48
  go_wp2
  go_loopw [7, 14] (fun v iv wr => ∃ k : Nat, k ≤ l.length ∧ iv = .int .i64 k ∧ Sd (InI E bs b l w k v wr)) (fun _ iv _ => l.length - (intOf iv).toNat)
  case atStart => exact ⟨0, by omega, rfl, ⟨⟨below_alloc (Below.refl _ _) _, ⟨[], ⟨rfl, .inl ⟨rfl, rfl⟩⟩, rfl⟩, Blk.new _ _ _⟩⟩⟩
  case round =>
    obtain ⟨k, hk, rfl, HI⟩ := hrel
    obtain ⟨pre, hO, hpre⟩ := HI.out.own
    obtain ⟨PA, pcap, rfl, _⟩ := hO.slice
    have HP := Sd.mk (And.intro hO hpre)
    clear hO hpre
    by_cases hlt : k < l.length
    · obtain ⟨g, o, rfl, hg, n0⟩ := (HN.out.below HI.out.below).at' k hlt
      have hib : l[k] < bs.length := HL.out _ (List.getElem_mem _)
      obtain ⟨g2, o2, rfl, hg2, hx⟩ := (HB.out.below HI.out.below).at' l[k] hib
      have hEw := (HI.out.below.cell (World.block_lt_of_cell? w _ HE.out)).trans HE.out
      have kb := HI.out.box
      obtain ⟨X, hX⟩ : ∃ X, bs[l[k]] = X := ⟨_, rfl⟩
      have HXW : Sd X.Wf := ⟨by rw [← hX]; exact HBS.out _ (List.getElem_mem _)⟩
      rw [hX] at hx
      have x0 := hx 0 _ rfl
      rw [Nat.add_zero] at x0
      have KC : ∀ W, Below wr.heap.size wr W → (Below wr.heap.size wr W ∧ W.cell? ⟨E, 9, none⟩ = some (.slice (some ⟨g2, o2, none⟩) bs.length bcap) ∧ W.cell? ⟨w.heap.size, 0, none⟩ = some (.int .u32 b.src.lo) ∧ W.cell? ⟨w.heap.size, 1, none⟩ = some (.int .u32 b.src.hi) ∧ W.cell? ⟨w.heap.size, 2, none⟩ = some (.int .u32 b.dst.lo) ∧ W.cell? ⟨w.heap.size, 3, none⟩ = some (.int .u32 b.dst.hi) ∧ W.cell? ⟨w.heap.size, 4, none⟩ = some (.int .u16 b.sp.lo) ∧ W.cell? ⟨w.heap.size, 5, none⟩ = some (.int .u16 b.sp.hi) ∧ W.cell? ⟨w.heap.size, 6, none⟩ = some (.int .u16 b.dp.lo) ∧ W.cell? ⟨w.heap.size, 7, none⟩ = some (.int .u16 b.dp.hi) ∧ W.cell? ⟨w.heap.size, 8, none⟩ = some (.int .u8 b.pr.v) ∧ W.cell? ⟨w.heap.size, 9, none⟩ = some (.int .u8 b.pr.c) ∧ W.cell? ⟨g2, o2 + l[k] * 10, none⟩ = some (.int .u32 X.src.lo) ∧ W.cell? ⟨g2, o2 + l[k] * 10 + 1, none⟩ = some (.int .u32 X.src.hi) ∧ W.cell? ⟨g2, o2 + l[k] * 10 + 2, none⟩ = some (.int .u32 X.dst.lo) ∧ W.cell? ⟨g2, o2 + l[k] * 10 + 3, none⟩ = some (.int .u32 X.dst.hi) ∧ W.cell? ⟨g2, o2 + l[k] * 10 + 4, none⟩ = some (.int .u16 X.sp.lo) ∧ W.cell? ⟨g2, o2 + l[k] * 10 + 5, none⟩ = some (.int .u16 X.sp.hi) ∧ W.cell? ⟨g2, o2 + l[k] * 10 + 6, none⟩ = some (.int .u16 X.dp.lo) ∧ W.cell? ⟨g2, o2 + l[k] * 10 + 7, none⟩ = some (.int .u16 X.dp.hi) ∧ W.cell? ⟨g2, o2 + l[k] * 10 + 8, none⟩ = some (.int .u8 X.pr.v) ∧ W.cell? ⟨g2, o2 + l[k] * 10 + 9, none⟩ = some (.int .u8 X.pr.c)) := fun W h => by
        have kk := kb.below h kb.lt
        exact ⟨h, (h.cell (World.block_lt_of_cell? wr _ hEw)).trans hEw, kk.cell (i := 0) rfl, kk.cell (i := 1) rfl, kk.cell (i := 2) rfl, kk.cell (i := 3) rfl, kk.cell (i := 4) rfl, kk.cell (i := 5) rfl, kk.cell (i := 6) rfl, kk.cell (i := 7) rfl, kk.cell (i := 8) rfl, kk.cell (i := 9) rfl, (h.cell (World.block_lt_of_cell? wr _ x0)).trans x0, (h.cell (World.block_lt_of_cell? wr _ (hx 1 _ rfl))).trans (hx 1 _ rfl), (h.cell (World.block_lt_of_cell? wr _ (hx 2 _ rfl))).trans (hx 2 _ rfl), (h.cell (World.block_lt_of_cell? wr _ (hx 3 _ rfl))).trans (hx 3 _ rfl), (h.cell (World.block_lt_of_cell? wr _ (hx 4 _ rfl))).trans (hx 4 _ rfl), (h.cell (World.block_lt_of_cell? wr _ (hx 5 _ rfl))).trans (hx 5 _ rfl), (h.cell (World.block_lt_of_cell? wr _ (hx 6 _ rfl))).trans (hx 6 _ rfl), (h.cell (World.block_lt_of_cell? wr _ (hx 7 _ rfl))).trans (hx 7 _ rfl), (h.cell (World.block_lt_of_cell? wr _ (hx 8 _ rfl))).trans (hx 8 _ rfl), (h.cell (World.block_lt_of_cell? wr _ (hx 9 _ rfl))).trans (hx 9 _ rfl)⟩
      have HKC := Sd.mk KC
      have HM1 := boxMeet_any X b HXW.out hb
      have HA1 := Sd.mk (heldA (fun _ h => h.1) KC HM1)
      have HS1 := Sd.mk (heldS (fun _ h => h.1) KC HM1)
      have HD1 := Sd.mk (heldD KC HM1)
      have HKA : Sd (∀ W o, (Below wr.heap.size wr W ∧ W.cell? ⟨E, 9, none⟩ = some (.slice (some ⟨g2, o2, none⟩) bs.length bcap) ∧ W.cell? ⟨w.heap.size, 0, none⟩ = some (.int .u32 b.src.lo) ∧ W.cell? ⟨w.heap.size, 1, none⟩ = some (.int .u32 b.src.hi) ∧ W.cell? ⟨w.heap.size, 2, none⟩ = some (.int .u32 b.dst.lo) ∧ W.cell? ⟨w.heap.size, 3, none⟩ = some (.int .u32 b.dst.hi) ∧ W.cell? ⟨w.heap.size, 4, none⟩ = some (.int .u16 b.sp.lo) ∧ W.cell? ⟨w.heap.size, 5, none⟩ = some (.int .u16 b.sp.hi) ∧ W.cell? ⟨w.heap.size, 6, none⟩ = some (.int .u16 b.dp.lo) ∧ W.cell? ⟨w.heap.size, 7, none⟩ = some (.int .u16 b.dp.hi) ∧ W.cell? ⟨w.heap.size, 8, none⟩ = some (.int .u8 b.pr.v) ∧ W.cell? ⟨w.heap.size, 9, none⟩ = some (.int .u8 b.pr.c) ∧ W.cell? ⟨g2, o2 + l[k] * 10, none⟩ = some (.int .u32 X.src.lo) ∧ W.cell? ⟨g2, o2 + l[k] * 10 + 1, none⟩ = some (.int .u32 X.src.hi) ∧ W.cell? ⟨g2, o2 + l[k] * 10 + 2, none⟩ = some (.int .u32 X.dst.lo) ∧ W.cell? ⟨g2, o2 + l[k] * 10 + 3, none⟩ = some (.int .u32 X.dst.hi) ∧ W.cell? ⟨g2, o2 + l[k] * 10 + 4, none⟩ = some (.int .u16 X.sp.lo) ∧ W.cell? ⟨g2, o2 + l[k] * 10 + 5, none⟩ = some (.int .u16 X.sp.hi) ∧ W.cell? ⟨g2, o2 + l[k] * 10 + 6, none⟩ = some (.int .u16 X.dp.lo) ∧ W.cell? ⟨g2, o2 + l[k] * 10 + 7, none⟩ = some (.int .u16 X.dp.hi) ∧ W.cell? ⟨g2, o2 + l[k] * 10 + 8, none⟩ = some (.int .u8 X.pr.v) ∧ W.cell? ⟨g2, o2 + l[k] * 10 + 9, none⟩ = some (.int .u8 X.pr.c)) → (Below wr.heap.size wr (W.alloc o) ∧ (W.alloc o).cell? ⟨E, 9, none⟩ = some (.slice (some ⟨g2, o2, none⟩) bs.length bcap) ∧ (W.alloc o).cell? ⟨w.heap.size, 0, none⟩ = some (.int .u32 b.src.lo) ∧ (W.alloc o).cell? ⟨w.heap.size, 1, none⟩ = some (.int .u32 b.src.hi) ∧ (W.alloc o).cell? ⟨w.heap.size, 2, none⟩ = some (.int .u32 b.dst.lo) ∧ (W.alloc o).cell? ⟨w.heap.size, 3, none⟩ = some (.int .u32 b.dst.hi) ∧ (W.alloc o).cell? ⟨w.heap.size, 4, none⟩ = some (.int .u16 b.sp.lo) ∧ (W.alloc o).cell? ⟨w.heap.size, 5, none⟩ = some (.int .u16 b.sp.hi) ∧ (W.alloc o).cell? ⟨w.heap.size, 6, none⟩ = some (.int .u16 b.dp.lo) ∧ (W.alloc o).cell? ⟨w.heap.size, 7, none⟩ = some (.int .u16 b.dp.hi) ∧ (W.alloc o).cell? ⟨w.heap.size, 8, none⟩ = some (.int .u8 b.pr.v) ∧ (W.alloc o).cell? ⟨w.heap.size, 9, none⟩ = some (.int .u8 b.pr.c) ∧ (W.alloc o).cell? ⟨g2, o2 + l[k] * 10, none⟩ = some (.int .u32 X.src.lo) ∧ (W.alloc o).cell? ⟨g2, o2 + l[k] * 10 + 1, none⟩ = some (.int .u32 X.src.hi) ∧ (W.alloc o).cell? ⟨g2, o2 + l[k] * 10 + 2, none⟩ = some (.int .u32 X.dst.lo) ∧ (W.alloc o).cell? ⟨g2, o2 + l[k] * 10 + 3, none⟩ = some (.int .u32 X.dst.hi) ∧ (W.alloc o).cell? ⟨g2, o2 + l[k] * 10 + 4, none⟩ = some (.int .u16 X.sp.lo) ∧ (W.alloc o).cell? ⟨g2, o2 + l[k] * 10 + 5, none⟩ = some (.int .u16 X.sp.hi) ∧ (W.alloc o).cell? ⟨g2, o2 + l[k] * 10 + 6, none⟩ = some (.int .u16 X.dp.lo) ∧ (W.alloc o).cell? ⟨g2, o2 + l[k] * 10 + 7, none⟩ = some (.int .u16 X.dp.hi) ∧ (W.alloc o).cell? ⟨g2, o2 + l[k] * 10 + 8, none⟩ = some (.int .u8 X.pr.v) ∧ (W.alloc o).cell? ⟨g2, o2 + l[k] * 10 + 9, none⟩ = some (.int .u8 X.pr.c))) := ⟨fun W o h => HKC.out _ (h.1.alloc h.1.size o)⟩
      have HKT : Sd (∀ (V : World) (h : Nat) (u0 u1 u2 u3 u4 u5 u6 u7 u8 u9 : Value), (Below wr.heap.size wr V ∧ V.cell? ⟨E, 9, none⟩ = some (.slice (some ⟨g2, o2, none⟩) bs.length bcap) ∧ V.cell? ⟨w.heap.size, 0, none⟩ = some (.int .u32 b.src.lo) ∧ V.cell? ⟨w.heap.size, 1, none⟩ = some (.int .u32 b.src.hi) ∧ V.cell? ⟨w.heap.size, 2, none⟩ = some (.int .u32 b.dst.lo) ∧ V.cell? ⟨w.heap.size, 3, none⟩ = some (.int .u32 b.dst.hi) ∧ V.cell? ⟨w.heap.size, 4, none⟩ = some (.int .u16 b.sp.lo) ∧ V.cell? ⟨w.heap.size, 5, none⟩ = some (.int .u16 b.sp.hi) ∧ V.cell? ⟨w.heap.size, 6, none⟩ = some (.int .u16 b.dp.lo) ∧ V.cell? ⟨w.heap.size, 7, none⟩ = some (.int .u16 b.dp.hi) ∧ V.cell? ⟨w.heap.size, 8, none⟩ = some (.int .u8 b.pr.v) ∧ V.cell? ⟨w.heap.size, 9, none⟩ = some (.int .u8 b.pr.c) ∧ V.cell? ⟨g2, o2 + l[k] * 10, none⟩ = some (.int .u32 X.src.lo) ∧ V.cell? ⟨g2, o2 + l[k] * 10 + 1, none⟩ = some (.int .u32 X.src.hi) ∧ V.cell? ⟨g2, o2 + l[k] * 10 + 2, none⟩ = some (.int .u32 X.dst.lo) ∧ V.cell? ⟨g2, o2 + l[k] * 10 + 3, none⟩ = some (.int .u32 X.dst.hi) ∧ V.cell? ⟨g2, o2 + l[k] * 10 + 4, none⟩ = some (.int .u16 X.sp.lo) ∧ V.cell? ⟨g2, o2 + l[k] * 10 + 5, none⟩ = some (.int .u16 X.sp.hi) ∧ V.cell? ⟨g2, o2 + l[k] * 10 + 6, none⟩ = some (.int .u16 X.dp.lo) ∧ V.cell? ⟨g2, o2 + l[k] * 10 + 7, none⟩ = some (.int .u16 X.dp.hi) ∧ V.cell? ⟨g2, o2 + l[k] * 10 + 8, none⟩ = some (.int .u8 X.pr.v) ∧ V.cell? ⟨g2, o2 + l[k] * 10 + 9, none⟩ = some (.int .u8 X.pr.c)) → wr.heap.size ≤ h → (Below wr.heap.size wr (((((((((((V.setCell ⟨h, 0, none⟩ u0).setCell ⟨h, 1, none⟩ u1).setCell ⟨h, 2, none⟩ u2).setCell ⟨h, 3, none⟩ u3).setCell ⟨h, 4, none⟩ u4).setCell ⟨h, 5, none⟩ u5).setCell ⟨h, 6, none⟩ u6).setCell ⟨h, 7, none⟩ u7).setCell ⟨h, 8, none⟩ u8).setCell ⟨h, 9, none⟩ u9)) ∧ (((((((((((V.setCell ⟨h, 0, none⟩ u0).setCell ⟨h, 1, none⟩ u1).setCell ⟨h, 2, none⟩ u2).setCell ⟨h, 3, none⟩ u3).setCell ⟨h, 4, none⟩ u4).setCell ⟨h, 5, none⟩ u5).setCell ⟨h, 6, none⟩ u6).setCell ⟨h, 7, none⟩ u7).setCell ⟨h, 8, none⟩ u8).setCell ⟨h, 9, none⟩ u9)).cell? ⟨E, 9, none⟩ = some (.slice (some ⟨g2, o2, none⟩) bs.length bcap) ∧ (((((((((((V.setCell ⟨h, 0, none⟩ u0).setCell ⟨h, 1, none⟩ u1).setCell ⟨h, 2, none⟩ u2).setCell ⟨h, 3, none⟩ u3).setCell ⟨h, 4, none⟩ u4).setCell ⟨h, 5, none⟩ u5).setCell ⟨h, 6, none⟩ u6).setCell ⟨h, 7, none⟩ u7).setCell ⟨h, 8, none⟩ u8).setCell ⟨h, 9, none⟩ u9)).cell? ⟨w.heap.size, 0, none⟩ = some (.int .u32 b.src.lo) ∧ (((((((((((V.setCell ⟨h, 0, none⟩ u0).setCell ⟨h, 1, none⟩ u1).setCell ⟨h, 2, none⟩ u2).setCell ⟨h, 3, none⟩ u3).setCell ⟨h, 4, none⟩ u4).setCell ⟨h, 5, none⟩ u5).setCell ⟨h, 6, none⟩ u6).setCell ⟨h, 7, none⟩ u7).setCell ⟨h, 8, none⟩ u8).setCell ⟨h, 9, none⟩ u9)).cell? ⟨w.heap.size, 1, none⟩ = some (.int .u32 b.src.hi) ∧ (((((((((((V.setCell ⟨h, 0, none⟩ u0).setCell ⟨h, 1, none⟩ u1).setCell ⟨h, 2, none⟩ u2).setCell ⟨h, 3, none⟩ u3).setCell ⟨h, 4, none⟩ u4).setCell ⟨h, 5, none⟩ u5).setCell ⟨h, 6, none⟩ u6).setCell ⟨h, 7, none⟩ u7).setCell ⟨h, 8, none⟩ u8).setCell ⟨h, 9, none⟩ u9)).cell? ⟨w.heap.size, 2, none⟩ = some (.int .u32 b.dst.lo) ∧ (((((((((((V.setCell ⟨h, 0, none⟩ u0).setCell ⟨h, 1, none⟩ u1).setCell ⟨h, 2, none⟩ u2).setCell ⟨h, 3, none⟩ u3).setCell ⟨h, 4, none⟩ u4).setCell ⟨h, 5, none⟩ u5).setCell ⟨h, 6, none⟩ u6).setCell ⟨h, 7, none⟩ u7).setCell ⟨h, 8, none⟩ u8).setCell ⟨h, 9, none⟩ u9)).cell? ⟨w.heap.size, 3, none⟩ = some (.int .u32 b.dst.hi) ∧ (((((((((((V.setCell ⟨h, 0, none⟩ u0).setCell ⟨h, 1, none⟩ u1).setCell ⟨h, 2, none⟩ u2).setCell ⟨h, 3, none⟩ u3).setCell ⟨h, 4, none⟩ u4).setCell ⟨h, 5, none⟩ u5).setCell ⟨h, 6, none⟩ u6).setCell ⟨h, 7, none⟩ u7).setCell ⟨h, 8, none⟩ u8).setCell ⟨h, 9, none⟩ u9)).cell? ⟨w.heap.size, 4, none⟩ = some (.int .u16 b.sp.lo) ∧ (((((((((((V.setCell ⟨h, 0, none⟩ u0).setCell ⟨h, 1, none⟩ u1).setCell ⟨h, 2, none⟩ u2).setCell ⟨h, 3, none⟩ u3).setCell ⟨h, 4, none⟩ u4).setCell ⟨h, 5, none⟩ u5).setCell ⟨h, 6, none⟩ u6).setCell ⟨h, 7, none⟩ u7).setCell ⟨h, 8, none⟩ u8).setCell ⟨h, 9, none⟩ u9)).cell? ⟨w.heap.size, 5, none⟩ = some (.int .u16 b.sp.hi) ∧ (((((((((((V.setCell ⟨h, 0, none⟩ u0).setCell ⟨h, 1, none⟩ u1).setCell ⟨h, 2, none⟩ u2).setCell ⟨h, 3, none⟩ u3).setCell ⟨h, 4, none⟩ u4).setCell ⟨h, 5, none⟩ u5).setCell ⟨h, 6, none⟩ u6).setCell ⟨h, 7, none⟩ u7).setCell ⟨h, 8, none⟩ u8).setCell ⟨h, 9, none⟩ u9)).cell? ⟨w.heap.size, 6, none⟩ = some (.int .u16 b.dp.lo) ∧ (((((((((((V.setCell ⟨h, 0, none⟩ u0).setCell ⟨h, 1, none⟩ u1).setCell ⟨h, 2, none⟩ u2).setCell ⟨h, 3, none⟩ u3).setCell ⟨h, 4, none⟩ u4).setCell ⟨h, 5, none⟩ u5).setCell ⟨h, 6, none⟩ u6).setCell ⟨h, 7, none⟩ u7).setCell ⟨h, 8, none⟩ u8).setCell ⟨h, 9, none⟩ u9)).cell? ⟨w.heap.size, 7, none⟩ = some (.int .u16 b.dp.hi) ∧ (((((((((((V.setCell ⟨h, 0, none⟩ u0).setCell ⟨h, 1, none⟩ u1).setCell ⟨h, 2, none⟩ u2).setCell ⟨h, 3, none⟩ u3).setCell ⟨h, 4, none⟩ u4).setCell ⟨h, 5, none⟩ u5).setCell ⟨h, 6, none⟩ u6).setCell ⟨h, 7, none⟩ u7).setCell ⟨h, 8, none⟩ u8).setCell ⟨h, 9, none⟩ u9)).cell? ⟨w.heap.size, 8, none⟩ = some (.int .u8 b.pr.v) ∧ (((((((((((V.setCell ⟨h, 0, none⟩ u0).setCell ⟨h, 1, none⟩ u1).setCell ⟨h, 2, none⟩ u2).setCell ⟨h, 3, none⟩ u3).setCell ⟨h, 4, none⟩ u4).setCell ⟨h, 5, none⟩ u5).setCell ⟨h, 6, none⟩ u6).setCell ⟨h, 7, none⟩ u7).setCell ⟨h, 8, none⟩ u8).setCell ⟨h, 9, none⟩ u9)).cell? ⟨w.heap.size, 9, none⟩ = some (.int .u8 b.pr.c) ∧ (((((((((((V.setCell ⟨h, 0, none⟩ u0).setCell ⟨h, 1, none⟩ u1).setCell ⟨h, 2, none⟩ u2).setCell ⟨h, 3, none⟩ u3).setCell ⟨h, 4, none⟩ u4).setCell ⟨h, 5, none⟩ u5).setCell ⟨h, 6, none⟩ u6).setCell ⟨h, 7, none⟩ u7).setCell ⟨h, 8, none⟩ u8).setCell ⟨h, 9, none⟩ u9)).cell? ⟨g2, o2 + l[k] * 10, none⟩ = some (.int .u32 X.src.lo) ∧ (((((((((((V.setCell ⟨h, 0, none⟩ u0).setCell ⟨h, 1, none⟩ u1).setCell ⟨h, 2, none⟩ u2).setCell ⟨h, 3, none⟩ u3).setCell ⟨h, 4, none⟩ u4).setCell ⟨h, 5, none⟩ u5).setCell ⟨h, 6, none⟩ u6).setCell ⟨h, 7, none⟩ u7).setCell ⟨h, 8, none⟩ u8).setCell ⟨h, 9, none⟩ u9)).cell? ⟨g2, o2 + l[k] * 10 + 1, none⟩ = some (.int .u32 X.src.hi) ∧ (((((((((((V.setCell ⟨h, 0, none⟩ u0).setCell ⟨h, 1, none⟩ u1).setCell ⟨h, 2, none⟩ u2).setCell ⟨h, 3, none⟩ u3).setCell ⟨h, 4, none⟩ u4).setCell ⟨h, 5, none⟩ u5).setCell ⟨h, 6, none⟩ u6).setCell ⟨h, 7, none⟩ u7).setCell ⟨h, 8, none⟩ u8).setCell ⟨h, 9, none⟩ u9)).cell? ⟨g2, o2 + l[k] * 10 + 2, none⟩ = some (.int .u32 X.dst.lo) ∧ (((((((((((V.setCell ⟨h, 0, none⟩ u0).setCell ⟨h, 1, none⟩ u1).setCell ⟨h, 2, none⟩ u2).setCell ⟨h, 3, none⟩ u3).setCell ⟨h, 4, none⟩ u4).setCell ⟨h, 5, none⟩ u5).setCell ⟨h, 6, none⟩ u6).setCell ⟨h, 7, none⟩ u7).setCell ⟨h, 8, none⟩ u8).setCell ⟨h, 9, none⟩ u9)).cell? ⟨g2, o2 + l[k] * 10 + 3, none⟩ = some (.int .u32 X.dst.hi) ∧ (((((((((((V.setCell ⟨h, 0, none⟩ u0).setCell ⟨h, 1, none⟩ u1).setCell ⟨h, 2, none⟩ u2).setCell ⟨h, 3, none⟩ u3).setCell ⟨h, 4, none⟩ u4).setCell ⟨h, 5, none⟩ u5).setCell ⟨h, 6, none⟩ u6).setCell ⟨h, 7, none⟩ u7).setCell ⟨h, 8, none⟩ u8).setCell ⟨h, 9, none⟩ u9)).cell? ⟨g2, o2 + l[k] * 10 + 4, none⟩ = some (.int .u16 X.sp.lo) ∧ (((((((((((V.setCell ⟨h, 0, none⟩ u0).setCell ⟨h, 1, none⟩ u1).setCell ⟨h, 2, none⟩ u2).setCell ⟨h, 3, none⟩ u3).setCell ⟨h, 4, none⟩ u4).setCell ⟨h, 5, none⟩ u5).setCell ⟨h, 6, none⟩ u6).setCell ⟨h, 7, none⟩ u7).setCell ⟨h, 8, none⟩ u8).setCell ⟨h, 9, none⟩ u9)).cell? ⟨g2, o2 + l[k] * 10 + 5, none⟩ = some (.int .u16 X.sp.hi) ∧ (((((((((((V.setCell ⟨h, 0, none⟩ u0).setCell ⟨h, 1, none⟩ u1).setCell ⟨h, 2, none⟩ u2).setCell ⟨h, 3, none⟩ u3).setCell ⟨h, 4, none⟩ u4).setCell ⟨h, 5, none⟩ u5).setCell ⟨h, 6, none⟩ u6).setCell ⟨h, 7, none⟩ u7).setCell ⟨h, 8, none⟩ u8).setCell ⟨h, 9, none⟩ u9)).cell? ⟨g2, o2 + l[k] * 10 + 6, none⟩ = some (.int .u16 X.dp.lo) ∧ (((((((((((V.setCell ⟨h, 0, none⟩ u0).setCell ⟨h, 1, none⟩ u1).setCell ⟨h, 2, none⟩ u2).setCell ⟨h, 3, none⟩ u3).setCell ⟨h, 4, none⟩ u4).setCell ⟨h, 5, none⟩ u5).setCell ⟨h, 6, none⟩ u6).setCell ⟨h, 7, none⟩ u7).setCell ⟨h, 8, none⟩ u8).setCell ⟨h, 9, none⟩ u9)).cell? ⟨g2, o2 + l[k] * 10 + 7, none⟩ = some (.int .u16 X.dp.hi) ∧ (((((((((((V.setCell ⟨h, 0, none⟩ u0).setCell ⟨h, 1, none⟩ u1).setCell ⟨h, 2, none⟩ u2).setCell ⟨h, 3, none⟩ u3).setCell ⟨h, 4, none⟩ u4).setCell ⟨h, 5, none⟩ u5).setCell ⟨h, 6, none⟩ u6).setCell ⟨h, 7, none⟩ u7).setCell ⟨h, 8, none⟩ u8).setCell ⟨h, 9, none⟩ u9)).cell? ⟨g2, o2 + l[k] * 10 + 8, none⟩ = some (.int .u8 X.pr.v) ∧ (((((((((((V.setCell ⟨h, 0, none⟩ u0).setCell ⟨h, 1, none⟩ u1).setCell ⟨h, 2, none⟩ u2).setCell ⟨h, 3, none⟩ u3).setCell ⟨h, 4, none⟩ u4).setCell ⟨h, 5, none⟩ u5).setCell ⟨h, 6, none⟩ u6).setCell ⟨h, 7, none⟩ u7).setCell ⟨h, 8, none⟩ u8).setCell ⟨h, 9, none⟩ u9)).cell? ⟨g2, o2 + l[k] * 10 + 9, none⟩ = some (.int .u8 X.pr.c))) := ⟨fun V h u0 u1 u2 u3 u4 u5 u6 u7 u8 u9 hc hh => HKC.out _ (by (iterate 10 refine below_set ?_ hh); exact hc.1)⟩
      have HKD : Sd (∀ o, (Below wr.heap.size wr ((wr.alloc o).drew) ∧ ((wr.alloc o).drew).cell? ⟨E, 9, none⟩ = some (.slice (some ⟨g2, o2, none⟩) bs.length bcap) ∧ ((wr.alloc o).drew).cell? ⟨w.heap.size, 0, none⟩ = some (.int .u32 b.src.lo) ∧ ((wr.alloc o).drew).cell? ⟨w.heap.size, 1, none⟩ = some (.int .u32 b.src.hi) ∧ ((wr.alloc o).drew).cell? ⟨w.heap.size, 2, none⟩ = some (.int .u32 b.dst.lo) ∧ ((wr.alloc o).drew).cell? ⟨w.heap.size, 3, none⟩ = some (.int .u32 b.dst.hi) ∧ ((wr.alloc o).drew).cell? ⟨w.heap.size, 4, none⟩ = some (.int .u16 b.sp.lo) ∧ ((wr.alloc o).drew).cell? ⟨w.heap.size, 5, none⟩ = some (.int .u16 b.sp.hi) ∧ ((wr.alloc o).drew).cell? ⟨w.heap.size, 6, none⟩ = some (.int .u16 b.dp.lo) ∧ ((wr.alloc o).drew).cell? ⟨w.heap.size, 7, none⟩ = some (.int .u16 b.dp.hi) ∧ ((wr.alloc o).drew).cell? ⟨w.heap.size, 8, none⟩ = some (.int .u8 b.pr.v) ∧ ((wr.alloc o).drew).cell? ⟨w.heap.size, 9, none⟩ = some (.int .u8 b.pr.c) ∧ ((wr.alloc o).drew).cell? ⟨g2, o2 + l[k] * 10, none⟩ = some (.int .u32 X.src.lo) ∧ ((wr.alloc o).drew).cell? ⟨g2, o2 + l[k] * 10 + 1, none⟩ = some (.int .u32 X.src.hi) ∧ ((wr.alloc o).drew).cell? ⟨g2, o2 + l[k] * 10 + 2, none⟩ = some (.int .u32 X.dst.lo) ∧ ((wr.alloc o).drew).cell? ⟨g2, o2 + l[k] * 10 + 3, none⟩ = some (.int .u32 X.dst.hi) ∧ ((wr.alloc o).drew).cell? ⟨g2, o2 + l[k] * 10 + 4, none⟩ = some (.int .u16 X.sp.lo) ∧ ((wr.alloc o).drew).cell? ⟨g2, o2 + l[k] * 10 + 5, none⟩ = some (.int .u16 X.sp.hi) ∧ ((wr.alloc o).drew).cell? ⟨g2, o2 + l[k] * 10 + 6, none⟩ = some (.int .u16 X.dp.lo) ∧ ((wr.alloc o).drew).cell? ⟨g2, o2 + l[k] * 10 + 7, none⟩ = some (.int .u16 X.dp.hi) ∧ ((wr.alloc o).drew).cell? ⟨g2, o2 + l[k] * 10 + 8, none⟩ = some (.int .u8 X.pr.v) ∧ ((wr.alloc o).drew).cell? ⟨g2, o2 + l[k] * 10 + 9, none⟩ = some (.int .u8 X.pr.c))) := ⟨fun o => HKC.out _ (below_alloc (Below.refl _ _) _).drew⟩
      have HM0 : Below wr.heap.size wr wr.drew := (Below.refl _ _).drew
      have HX := Sd.mk hX
      have HXC := Sd.mk hx
      have HEW := Sd.mk hEw
      clear HM1 KC hx x0 hEw kb hX
      go_upto_region 5 with fail
      go_cut [11] (fun s11 wx => s11 = .bool (X.meets b) ∧ Sd (Below wr.heap.size wr wx))
      case first =>
        go_region_held3 (fun W => Below wr.heap.size wr W ∧ W.cell? ⟨E, 9, none⟩ = some (.slice (some ⟨g2, o2, none⟩) bs.length bcap) ∧ W.cell? ⟨w.heap.size, 0, none⟩ = some (.int .u32 b.src.lo) ∧ W.cell? ⟨w.heap.size, 1, none⟩ = some (.int .u32 b.src.hi) ∧ W.cell? ⟨w.heap.size, 2, none⟩ = some (.int .u32 b.dst.lo) ∧ W.cell? ⟨w.heap.size, 3, none⟩ = some (.int .u32 b.dst.hi) ∧ W.cell? ⟨w.heap.size, 4, none⟩ = some (.int .u16 b.sp.lo) ∧ W.cell? ⟨w.heap.size, 5, none⟩ = some (.int .u16 b.sp.hi) ∧ W.cell? ⟨w.heap.size, 6, none⟩ = some (.int .u16 b.dp.lo) ∧ W.cell? ⟨w.heap.size, 7, none⟩ = some (.int .u16 b.dp.hi) ∧ W.cell? ⟨w.heap.size, 8, none⟩ = some (.int .u8 b.pr.v) ∧ W.cell? ⟨w.heap.size, 9, none⟩ = some (.int .u8 b.pr.c) ∧ W.cell? ⟨g2, o2 + l[k] * 10, none⟩ = some (.int .u32 X.src.lo) ∧ W.cell? ⟨g2, o2 + l[k] * 10 + 1, none⟩ = some (.int .u32 X.src.hi) ∧ W.cell? ⟨g2, o2 + l[k] * 10 + 2, none⟩ = some (.int .u32 X.dst.lo) ∧ W.cell? ⟨g2, o2 + l[k] * 10 + 3, none⟩ = some (.int .u32 X.dst.hi) ∧ W.cell? ⟨g2, o2 + l[k] * 10 + 4, none⟩ = some (.int .u16 X.sp.lo) ∧ W.cell? ⟨g2, o2 + l[k] * 10 + 5, none⟩ = some (.int .u16 X.sp.hi) ∧ W.cell? ⟨g2, o2 + l[k] * 10 + 6, none⟩ = some (.int .u16 X.dp.lo) ∧ W.cell? ⟨g2, o2 + l[k] * 10 + 7, none⟩ = some (.int .u16 X.dp.hi) ∧ W.cell? ⟨g2, o2 + l[k] * 10 + 8, none⟩ = some (.int .u8 X.pr.v) ∧ W.cell? ⟨g2, o2 + l[k] * 10 + 9, none⟩ = some (.int .u8 X.pr.c))
          (first | (with_reducible assumption) | (with_reducible exact HKC.out _ HM0) | (with_reducible exact HKD.out _) | (with_reducible exact HKA.out _ _ (by with_reducible assumption)) | (with_reducible exact HKT.out _ _ _ _ _ _ _ _ _ _ _ _ (by with_reducible assumption) (by with_reducible assumption)))
          (first | (go_at_call_of 66 (Value.agg #[.int .u32 X.src.lo, .int .u32 X.src.hi, .int .u32 X.dst.lo, .int .u32 X.dst.hi, .int .u16 X.sp.lo, .int .u16 X.sp.hi, .int .u16 X.dp.lo, .int .u16 X.dp.hi, .int .u8 X.pr.v, .int .u8 X.pr.c]); first | ((with_reducible refine HD1.out.mono ?_); unfold ZeroB; rintro e w1 ⟨rfl, hs1, zm, ⟨z0, z1, z2, z3, z4, z5, z6, z7, z8, z9⟩, zf, zl, zb⟩) | ((with_reducible refine (HA1.out _ (by with_reducible assumption)).mono ?_); unfold ZeroB; rintro e w1 ⟨rfl, hs1, zm, ⟨z0, z1, z2, z3, z4, z5, z6, z7, z8, z9⟩, zf, zl, zb⟩) | ((with_reducible refine (HS1.out _ (by with_reducible assumption)).mono ?_); rintro e w1 ⟨rfl, hs1⟩)))
        · go_wp2_with fail
          go_meet
          with_reducible exact ⟨rfl, ⟨hs1.1.alloc hs1.1.size _⟩⟩
        · go_wp2_with fail
          go_meet
          refine ⟨rfl, ⟨?_⟩⟩
          iterate 10 refine below_set ?_ zm
          exact hs1.1
      case rest =>
        obtain ⟨rfl, HC⟩ := hcut
        cases hm : X.meets b with
        | false =>
          have HN2 := Sd.mk (HI.out.step HC.out (insideI_no bs b l k hlt hib (by rw [HX.out]; exact hm)))
          go_wp2_with fail
          go_roundw
          case rel => exact ⟨k + 1, by omega, by go_num, HN2⟩
          case measure => simp [intOf]; omega
        | true =>
          have HPL : Sd (pre.length + 1 ≤ maxLen ∧ (pre.length + 1) * 8 ≤ 140737488355328) := ⟨by
            have h1 := congrArg List.length HP.out.2
            have h2 := insideI_len bs b l
            rw [List.length_append] at h1
            unfold maxLen
            omega⟩
          cases hw : b.within X with
          | true =>
            have K := boxWithin_any b X hb HXW.out
            rw [hw] at K
            have HK2 := Sd.mk K
            have HEQ := Sd.mk (HP.out.2.trans (congrArg (pre ++ ·) (insideI_last bs b l k hlt hib (by rw [HX.out]; exact hm) (by rw [HX.out]; exact hw))))
            clear K hw hm
            go_upto_region 7 with fail
            go_wp2_with (at_builtin; refine wpList_append_own_at _ rfl _ _ 47 rfl w.heap.size 3 i0 _ 1 8 Try.underlying47 HI0.out.1 HI0.out.2.1 HI0.out.2.2.1 HI0.out.2.2.2 rfl (by decide) (.slice PA pre.length pcap) pre.length (numC pre) rfl (World.ownsRow.alloc (ownsRow_below HP.out.1 HC.out (fun g hg => (HP.out.1.lt g hg).2)) _) ⟨wc.heap.size, 0, none⟩ 1 1 [.int .i64 l[k]] rfl rfl (cells_new _ [.int .i64 l[k]] _ rfl) (by intro u hu; simp at hu; subst hu; rfl) (HPL.out.1) (HPL.out.2) (by simp; exact Nat.le_trans HI.out.below.size (Nat.le_trans HC.out.size (Nat.le_succ _))) ?_; intro v1 w2 hown2 hg2 _ _; have HO2 : Sd (OwnN w2 w.heap.size v1 (pre ++ [l[k]])) := ⟨by unfold OwnN numC; rw [List.length_append, List.map_append]; exact hown2⟩; have HB2 : Sd (Below w.heap.size w w2) := ⟨((HI.out.below.trans (HC.out.mono HI.out.below.size)).alloc (Nat.le_trans HI.out.below.size HC.out.size) _).grown hg2 (by simp; exact Nat.le_trans HI.out.below.size (Nat.le_trans HC.out.size (Nat.le_succ _))) (fun r hr => (HP.out.1.lt r hr).1)⟩; have HBX := Sd.mk (Blk.kept ((HI.out.box.below HC.out HI.out.box.lt).alloc _) hg2 (row_ne HP.out.1 HI.out.box (by decide))); obtain ⟨gv, cv, rfl⟩ := ownsRow_succ hown2; clear hown2 hg2)
            have hE2 := (HB2.out.cell (World.block_lt_of_cell? w _ HE.out)).trans HE.out
            obtain ⟨g3, o3, e3, _, hx3⟩ := (HB.out.below HB2.out).at' l[k] hib
            obtain ⟨rfl, rfl⟩ : g2 = g3 ∧ o2 = o3 := by simpa using e3
            rw [HX.out] at hx3
            have HIS := Sd.mk (insS hE2 HBX.out hx3)
            have HWn := Sd.mk (heldS (fun _ h => h.1) HIS.out HK2.out)
            clear hE2 hx3 e3
            go_upto_region 8 with fail
            refine wp_region_quietC (C := InsS w2 E w.heap.size g2 o2 l[k] bs.length bcap b X) (by kernel_rfl) (by kernel_rfl) (HIS.out _ ((Below.refl _ _).drew)) ?_
            repeat (first
              | go_big_quiet_skip
              | (go_big_quiet_want
                 first
                   | (refine quiet_run ?_
                      apply Exists.intro
                      refine ⟨fun w hw => ?_, ?_⟩
                      · ((unfold InsS at hw); go_split_ands; go_simp; (try with_reducible rfl))
                      go_big_quiet_on
                      try simp only [Act.put, List.setIfInBounds_toArray, List.set_cons_zero, List.set_cons_succ])
                   | (apply Exists.intro
                      refine ⟨fun w hw => ?_, ?_⟩
                      · (unfold Oper.quietAt; go_simp; first | (with_reducible exact HWn.out _ hw))
                      go_big_quiet_on
                      try simp only [Act.put, List.setIfInBounds_toArray, List.set_cons_zero, List.set_cons_succ])))
            refine wpQuiet_nil ?_
            intro W hW
            go_wp2_with fail
            go_ret
            refine ⟨_, rfl, ?_, HB2.out.trans (hW.1.mono HB2.out.size)⟩
            rw [HEQ.out]
            exact ownsRow_below HO2.out hW.1 fun g hg => (HO2.out.lt g hg).2
          | false =>
            have K := boxWithin_any b X hb HXW.out
            rw [hw] at K
            have HK2 := Sd.mk K
            have HEQ := Sd.mk (HP.out.2.trans (congrArg (pre ++ ·) (insideI_more bs b l k hlt hib (by rw [HX.out]; exact hm) (by rw [HX.out]; exact hw))))
            clear K hw hm
            go_upto_region 7 with fail
            go_wp2_with (at_builtin; refine wpList_append_own_at _ rfl _ _ 47 rfl w.heap.size 3 i0 _ 1 8 Try.underlying47 HI0.out.1 HI0.out.2.1 HI0.out.2.2.1 HI0.out.2.2.2 rfl (by decide) (.slice PA pre.length pcap) pre.length (numC pre) rfl (World.ownsRow.alloc (ownsRow_below HP.out.1 HC.out (fun g hg => (HP.out.1.lt g hg).2)) _) ⟨wc.heap.size, 0, none⟩ 1 1 [.int .i64 l[k]] rfl rfl (cells_new _ [.int .i64 l[k]] _ rfl) (by intro u hu; simp at hu; subst hu; rfl) (HPL.out.1) (HPL.out.2) (by simp; exact Nat.le_trans HI.out.below.size (Nat.le_trans HC.out.size (Nat.le_succ _))) ?_; intro v1 w2 hown2 hg2 _ _; have HO2 : Sd (OwnN w2 w.heap.size v1 (pre ++ [l[k]])) := ⟨by unfold OwnN numC; rw [List.length_append, List.map_append]; exact hown2⟩; have HB2 : Sd (Below w.heap.size w w2) := ⟨((HI.out.below.trans (HC.out.mono HI.out.below.size)).alloc (Nat.le_trans HI.out.below.size HC.out.size) _).grown hg2 (by simp; exact Nat.le_trans HI.out.below.size (Nat.le_trans HC.out.size (Nat.le_succ _))) (fun r hr => (HP.out.1.lt r hr).1)⟩; have HBX := Sd.mk (Blk.kept ((HI.out.box.below HC.out HI.out.box.lt).alloc _) hg2 (row_ne HP.out.1 HI.out.box (by decide))); obtain ⟨gv, cv, rfl⟩ := ownsRow_succ hown2; clear hown2 hg2)
            have hE2 := (HB2.out.cell (World.block_lt_of_cell? w _ HE.out)).trans HE.out
            obtain ⟨g3, o3, e3, _, hx3⟩ := (HB.out.below HB2.out).at' l[k] hib
            obtain ⟨rfl, rfl⟩ : g2 = g3 ∧ o2 = o3 := by simpa using e3
            rw [HX.out] at hx3
            have HIS := Sd.mk (insS hE2 HBX.out hx3)
            have HWn := Sd.mk (heldS (fun _ h => h.1) HIS.out HK2.out)
            clear hE2 hx3 e3
            go_upto_region 8 with fail
            refine wp_region_quietC (C := InsS w2 E w.heap.size g2 o2 l[k] bs.length bcap b X) (by kernel_rfl) (by kernel_rfl) (HIS.out _ ((Below.refl _ _).drew)) ?_
            repeat (first
              | go_big_quiet_skip
              | (go_big_quiet_want
                 first
                   | (refine quiet_run ?_
                      apply Exists.intro
                      refine ⟨fun w hw => ?_, ?_⟩
                      · ((unfold InsS at hw); go_split_ands; go_simp; (try with_reducible rfl))
                      go_big_quiet_on
                      try simp only [Act.put, List.setIfInBounds_toArray, List.set_cons_zero, List.set_cons_succ])
                   | (apply Exists.intro
                      refine ⟨fun w hw => ?_, ?_⟩
                      · (unfold Oper.quietAt; go_simp; first | (with_reducible exact HWn.out _ hw))
                      go_big_quiet_on
                      try simp only [Act.put, List.setIfInBounds_toArray, List.set_cons_zero, List.set_cons_succ])))
            refine wpQuiet_nil ?_
            intro W hW
            go_wp2_with fail
            go_roundw
            case rel => exact ⟨k + 1, by omega, by go_num, ⟨⟨HB2.out.trans (hW.1.mono HB2.out.size), ⟨pre ++ [l[k]], ownsRow_below HO2.out hW.1 fun g hg => (HO2.out.lt g hg).2, by rw [HEQ.out]; simp⟩, HBX.out.below hW.1 HBX.out.lt⟩⟩⟩
            case measure => simp [intOf]; omega
    · have HF : Sd (insideI bs b l = pre) := ⟨HP.out.2.trans (by rw [show l.drop k = [] from List.drop_eq_nil_of_le (by omega)]; unfold insideI; exact List.append_nil _)⟩
      have hk' : k = l.length := by omega
      go_wp2
      go_ret
      exact ⟨_, rfl, by rw [HF.out]; exact HP.out.1, HI.out.below⟩
end Go.Proofs.Ytljliopmphaoeaa
