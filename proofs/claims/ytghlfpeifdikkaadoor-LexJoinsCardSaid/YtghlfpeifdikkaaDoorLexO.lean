/- Next. -/
import Derived.Test.YtghlfpeifdikkaaDoorLexN
namespace Go.Proofs.YtghlfpeifdikkaaDoor
open Go.RowKit Go.Proofs.YtghlfpeifdikkaaDoor.Lex

set_option maxHeartbeats 2000000 in
set_option maxRecDepth 100000 in
/-- a token that was told before -/
theorem next_again (w : World) (B : Nat) (s : ByteArray) (c : Sc) (v : Value) (hS : ScAt w B s c v) (hn : c.nxt < c.told.length) (hl : c.told.length ≤ 1000000) :
    Calls Tryd.prog 19 #[.pointer (some ⟨B, 0, none⟩)] w (NextOut w B s c v) := by
  obtain ⟨p, hsc⟩ := hS.sc
  have hblk := hsc.blk
  unfold scanC at hblk
  have HS := Sd.mk hS
  have HSC := Sd.mk hsc
  rcases own_cells hS.own with ⟨_, he⟩ | ⟨g, cap, hv, hg1, hg2, hc1, hc2, hcell⟩
  · rw [he] at hn; simp at hn
  · subst hv
    obtain ⟨a0, a1, a2, a3, a4⟩ := hcell c.nxt hn
    have c4 := hblk.cell (i := 4) rfl
    have c5 := hblk.cell (i := 5) rfl
    have cf := hblk.frozen
    have cl := hblk.lt
    have en : ((c.nxt : Int) == c.told.length) = false := by simp; omega
    obtain ⟨k, hk⟩ : ∃ k, c.told[c.nxt] = k := ⟨_, rfl⟩
    rw [hk] at a0 a1 a2 a3 a4
    have HK := Sd.mk hk
    have hgB : B < g := by omega
    clear hcell hS hsc hblk hk
    go_enter Tryd.func19, Tryd.ntmps19
    go_wp2
    go_region
    go_wp2
    go_region
    go_wp2
    have hE : nx s c = (some k, { c with nxt := c.nxt + 1 }) := by unfold nx; rw [if_pos hn, List.getElem?_eq_getElem hn, HK.out]
    refine bodyPost_ret (v := .tuple #[tkV k, .bool true, .nilIface]) ?_ rfl ⟨_, k, true, .nilIface, rfl, by rw [hE]; rfl, fun _ => rfl, (fun h => by cases h), ?_, .inl rfl, ?_⟩
    · simp [results, Tryd.results19, go_sem, tkV]
    · rw [hE]; exact ((HS.out.next (m := c.nxt + 1) (by omega)).alloc _).drew.drew
    · exact (((Only.refl w _).setCell ⟨B, 5, none⟩ _ (fun _ => .inl rfl)).alloc _).drew.drew
theorem own_slice {w : World} {B : Nat} {v : Value} {l : List Tk} (h : Own w B v l) : ∃ A cap, v = .slice A l.length cap := by
  rcases own_cells h with ⟨h1, h2⟩ | ⟨g, cap, h1, _⟩
  · exact ⟨none, 0, by rw [h1, h2]; rfl⟩
  · exact ⟨_, cap, h1⟩
set_option maxHeartbeats 2000000 in
set_option maxRecDepth 100000 in
/-- there is no further token -/
theorem next_none (w : World) (B : Nat) (s : ByteArray) (c : Sc) (v : Value) (t : St) (hs : s.size ≤ 140737488351232) (hS : ScAt w B s c v) (hn : c.nxt = c.told.length) (hr : rd s c.st = (none, t)) :
    Calls Tryd.prog 19 #[.pointer (some ⟨B, 0, none⟩)] w (NextOut w B s c v) := by
  obtain ⟨p, hsc⟩ := hS.sc
  have hblk := hsc.blk
  obtain ⟨A, cap, rfl⟩ := own_slice hS.own
  have HO := Sd.mk hS.own
  unfold scanC at hblk
  have HS := Sd.mk hS
  have HSC := Sd.mk hsc
  have c4 := hblk.cell (i := 4) rfl
  have c5 := hblk.cell (i := 5) rfl
  have cl := hblk.lt
  have en : ((c.nxt : Int) == c.told.length) = true := by simp; omega
  have HN := Sd.mk hn
  have HR := Sd.mk hr
  have HRd := Sd.mk (read_any ((w.alloc (.cells zero5 38)).drew) B s c.st (.slice A c.told.length cap) c.nxt p hs (hsc.alloc _).drew hS.good.ok (by have := hS.good.ln; have := hS.good.bs; omega))
  clear hS hsc hblk hn hr
  go_enter Tryd.func19, Tryd.ntmps19
  go_wp2
  go_region
  go_wp2_with fail
  refine HRd.out.mono ?_
  rintro e w1 ⟨⟨k, b, rfl, hk⟩, ⟨p1, hs1⟩, ho1⟩
  rw [HR.out] at hk hs1
  cases b
  rotate_left
  · cases hk
  · have hR1 := (Blk.new w zero5 38).drew.only ho1 (by omega)
    have HR1 := Sd.mk hR1
    have HS1 := Sd.mk hs1
    have HO1 := Sd.mk ((((Only.refl w (· = B)).alloc _).drew).trans ho1 (fun _ _ h => h))
    have HF := Sd.mk (fault_any (w1.alloc (.cells #[.int .i64 k.kind, .string k.text, .int .u32 k.value, .int .i64 k.line, .int .i64 k.col] 38)) B s t _ _ p1 (hs1.alloc _))
    clear hk hs1 ho1 hR1 c4 c5
    unfold tkV
    go_wp2_with fail
    refine HF.out.mono ?_
    rintro e w2 ⟨ev, rfl, hev, hb2⟩
    have hR2 := (HR1.out.alloc (.cells #[.int .i64 k.kind, .string k.text, .int .u32 k.value, .int .i64 k.line, .int .i64 k.col] 38)).below hb2 (HR1.out.alloc _).lt
    unfold zero5 at hR2
    have b0 := hR2.cell (i := 0) rfl
    have b1 := hR2.cell (i := 1) rfl
    have b2 := hR2.cell (i := 2) rfl
    have b3 := hR2.cell (i := 3) rfl
    have b4 := hR2.cell (i := 4) rfl
    have bf := hR2.frozen
    have bl := hR2.lt
    have HEV := Sd.mk hev
    have HB2 := Sd.mk hb2
    have HR2 := Sd.mk hR2
    clear hev hb2 hR2
    go_wp2
    have hE : nx s c = (none, { c with st := t }) := by unfold nx; rw [if_neg (by have := HN.out; omega), HR.out]
    have hon : Only w (putTk w2 w.heap.size 0 0 ⟨#[]⟩ 0 0) (· = B) := ((HO1.out.alloc _).trans (below_only HB2.out (fun _ => False)) (fun _ _ h => h.elim)).putTk w.heap.size (fun h => absurd h (Nat.lt_irrefl _)) 0 0 ⟨#[]⟩ 0 0
    have hg := rd_good HS.out.good
    rw [HR.out] at hg
    refine bodyPost_ret (v := .tuple #[tkV noTk, .bool false, ev]) ?_ rfl ⟨_, noTk, false, ev, rfl, by rw [hE]; rfl, (fun h => by cases h), (fun _ => ⟨rfl, by rw [hE]; exact HEV.out.putTk (Nat.le_trans HO1.out.size (by rw [World.size_alloc]; exact Nat.le_succ _)) HR2.out _ _ _ _ _⟩), ?_, .inl rfl, hon.mono (fun _ _ h => .inl h)⟩
    · simp [results, Tryd.results19, go_sem, tkV, noTk, b0, b1, b2, b3, b4]
    · rw [hE]
      exact ⟨⟨p1, ((HS1.out.alloc _).below HB2.out).putTk HR2.out _ _ _ _ _⟩, ownsRow_only HO.out hon (fun g e => by have := (HO.out.lt g e).1; omega), HS.out.le, hg⟩
end Go.Proofs.YtghlfpeifdikkaaDoor
