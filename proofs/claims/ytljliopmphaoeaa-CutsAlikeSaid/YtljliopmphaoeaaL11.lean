/- CutsAlike: the walk. -/
import Derived.Test.YtljliopmphaoeaaMSe
import Derived.Deep.CutBlock
namespace Go.Proofs.Ytljliopmphaoeaa
open Go Go.RowKit Go.Proofs.Ytljliopmphaoeaa.Q Go.ChangeShapes Go.WideShapes
set_option maxHeartbeats 8000000 in
set_option maxRecDepth 100000 in
theorem lawAlike_on (l : List Rul) (A : Option Addr) (cap : Nat) (od : List Int) (OA : Option Addr) (ocap : Nat) (ot : List Rul) (TA : Option Addr) (tcap : Nat) (hs : List Hdr) (HA : Option Addr) (hcap : Nat) (w : World) (hL : RulesIn w A cap l) (hO : IntsIn w OA ocap od) (hT : RulesIn w TA tcap ot) (hH : HdrsIn w HA hcap hs)
    (n1 : l.length ≤ 64) (n2 : ot.length ≤ 64) (n3 : hs.length ≤ 2000) (hset : setI cfgB l = 0) :
    Calls Try.prog 4 #[.slice A l.length cap, .slice OA od.length ocap, .slice TA ot.length tcap, .slice HA hs.length hcap] w fun e w' => e = .returned (.bool true) ∧ Below w.heap.size w w' := by
  have HAW := Sd.mk awake_any
  have HN : Sd (∀ W, Calls Try.prog 10 #[.agg #[.int .i64 64, .int .i64 4, .int .i64 1048576, .int .i64 1048576, .int .i64 1048576, .int .i64 4, .int .i64 8]] W fun e w' => ∃ E T base, e = .returned (.tuple #[.pointer (some ⟨E, 0, none⟩), .int .i64 0]) ∧ (∃ N, EngP E T base cfgB w' N [] ∧ ∀ k, N k → W.heap.size ≤ k) ∧ Below W.heap.size W w') := ⟨fun W => eng_new cfgB W cfgB_ok⟩
  have HLI := Sd.mk hL
  have HOI := Sd.mk hO
  have HTI := Sd.mk hT
  have HHI := Sd.mk hH
  have HSET := Sd.mk hset
  have hmk := mk_bools l.length (by omega)
  clear hL hO hT hH hset
  go_enter Try.func4, Try.ntmps4
  go_upto_region 4 with fail
  obtain ⟨W2, hW2⟩ : ∃ W2, w.alloc (.cells #[.int .i64 64, .int .i64 4, .int .i64 1048576, .int .i64 1048576, .int .i64 1048576, .int .i64 4, .int .i64 8] 24) = W2 := ⟨_, rfl⟩
  have hb2 : Below w.heap.size w W2 := by rw [← hW2]; exact below_alloc (Below.refl _ _) _
  have hc2 : Blk W2 w.heap.size #[.int .i64 64, .int .i64 4, .int .i64 1048576, .int .i64 1048576, .int .i64 1048576, .int .i64 4, .int .i64 8] 24 := by rw [← hW2]; exact Blk.new _ _ _
  try rw [hW2]
  have HB2 := Sd.mk hb2
  have HC2 := Sd.mk hc2
  have f0 : W2.cell? ⟨w.heap.size, 0, none⟩ = some (.int .i64 64) := hc2.cell (i := 0) rfl
  have f1 : W2.cell? ⟨w.heap.size, 1, none⟩ = some (.int .i64 4) := hc2.cell (i := 1) rfl
  have f2 : W2.cell? ⟨w.heap.size, 2, none⟩ = some (.int .i64 1048576) := hc2.cell (i := 2) rfl
  have f3 : W2.cell? ⟨w.heap.size, 3, none⟩ = some (.int .i64 1048576) := hc2.cell (i := 3) rfl
  have f4 : W2.cell? ⟨w.heap.size, 4, none⟩ = some (.int .i64 1048576) := hc2.cell (i := 4) rfl
  have f5 : W2.cell? ⟨w.heap.size, 5, none⟩ = some (.int .i64 4) := hc2.cell (i := 5) rfl
  have f6 : W2.cell? ⟨w.heap.size, 6, none⟩ = some (.int .i64 8) := hc2.cell (i := 6) rfl
  clear hW2 hb2 hc2
  go_wp2_with fail
  refine (HN.out _).mono ?_
  rintro e w3 ⟨E1, T1, b1, rfl, ⟨N1, hp1, hn1⟩, hb3⟩
  have hc3 := HC2.out.below hb3 HC2.out.lt
  have HB3 := Sd.mk (beyond HB2.out hb3)
  clear f0 f1 f2 f3 f4 f5 f6
  have f0 : w3.cell? ⟨w.heap.size, 0, none⟩ = some (.int .i64 64) := hc3.cell (i := 0) rfl
  have f1 : w3.cell? ⟨w.heap.size, 1, none⟩ = some (.int .i64 4) := hc3.cell (i := 1) rfl
  have f2 : w3.cell? ⟨w.heap.size, 2, none⟩ = some (.int .i64 1048576) := hc3.cell (i := 2) rfl
  have f3 : w3.cell? ⟨w.heap.size, 3, none⟩ = some (.int .i64 1048576) := hc3.cell (i := 3) rfl
  have f4 : w3.cell? ⟨w.heap.size, 4, none⟩ = some (.int .i64 1048576) := hc3.cell (i := 4) rfl
  have f5 : w3.cell? ⟨w.heap.size, 5, none⟩ = some (.int .i64 4) := hc3.cell (i := 5) rfl
  have f6 : w3.cell? ⟨w.heap.size, 6, none⟩ = some (.int .i64 8) := hc3.cell (i := 6) rfl
  have HP1 := Sd.mk (And.intro hp1 (fun k hk => Nat.le_trans HB2.out.size (hn1 k hk)))
  clear hp1 hn1 hb3 hc3
  go_wp2_with fail
  refine (HN.out _).mono ?_
  rintro e w4 ⟨E2, T2, b2, rfl, ⟨N2, hp2, hn2⟩, hb4⟩
  have Kx := eng_kind E1 T1 b1 cfgB
  have Ky := eng_kind E2 T2 b2 cfgB
  have KA := eng_apart E1 T1 b1 cfgB E2 T2 b2 cfgB
  have HB4 := Sd.mk (beyond HB3.out hb4)
  have hT4 : Two (EngP E1 T1 b1 cfgB) (EngP E2 T2 b2 cfgB) w.heap.size N1 N2 [] [] w4 := ⟨Kx.below HP1.out.1 hb4, hp2, fun k h1 h2 => by have := Kx.lt HP1.out.1 k h1; have := hn2 k h2; omega, fun k hk => by
    rcases hk with hk | hk
    · exact HP1.out.2 k hk
    · exact Nat.le_trans HB3.out.size (hn2 k hk)⟩
  have HKK := Sd.mk (And.intro Kx (And.intro Ky KA))
  have HT4 := Sd.mk hT4
  have hsx := Kx.set hT4.x l A cap HLI.out.wf (by omega) HLI.out.le (HLI.out.lst.below HB4.out) (fun h0 a ha hn => by
    obtain ⟨g, o, e1, e2, _⟩ := HLI.out.lst.at' 0 h0
    rw [ha] at e1; injection e1 with e1; subst e1
    have := hT4.low _ (.inl hn); simp only at *; omega)
  rw [setE_zero, HSET.out, if_pos rfl] at hsx
  have HSX := Sd.mk hsx
  clear f0 f1 f2 f3 f4 f5 f6 Kx Ky KA hT4 hp2 hn2 hb4 HP1 hsx
  go_wp2_with fail
  refine HSX.out.mono ?_
  rintro e w5 ⟨rfl, hch⟩
  obtain ⟨N1', hT5, hb5, _, _⟩ := HT4.out.chgX HKK.out.2.1 HKK.out.2.2 HB4.out.size hch
  have HB5 := Sd.mk (HB4.out.trans hb5)
  have HT5 := Sd.mk hT5
  clear hch hT5 hb5
  go_upto_region 11 with fail
  obtain ⟨W6, hW6⟩ : ∃ W6, w5.alloc (.cells (Array.replicate l.length (Value.bool false)) 4) = W6 := ⟨_, rfl⟩
  have hb6 : Below w5.heap.size w5 W6 := by rw [← hW6]; exact below_alloc (Below.refl _ _) _
  have HI0 : Sd (AlikeI (EngP E1 T1 b1 cfgB) (EngP E2 T2 b2 cfgB) w.heap.size w5.heap.size l 0 W6) := ⟨⟨N1', N2, List.replicate l.length false, by
      rw [sel_none]
      exact HT5.out.more HKK.out.1 HKK.out.2.1 hb6, by rw [← hW6]; exact bools_new _ _, by simp, cnt_none _, fun hn => by have := HKK.out.1.lt HT5.out.x _ hn; omega, fun hn => by have := HKK.out.2.1.lt HT5.out.y _ hn; omega⟩, HB5.out.size, Nat.le_trans HB5.out.size hb6.size⟩
  have HB6 := Sd.mk (beyond HB5.out hb6)
  try rw [hW6]
  clear hW6 hb6 hmk
  generalize w5.heap.size = IB at HI0 ⊢
  go_wp2
  go_loopw [15] (fun s15 wr => ∃ i : Nat, i ≤ l.length ∧ s15 = .int .i64 i ∧ Sd (AlikeI (EngP E1 T1 b1 cfgB) (EngP E2 T2 b2 cfgB) w.heap.size IB l i wr ∧ Below w.heap.size w wr)) (fun s15 _ => l.length - (intOf s15).toNat)
  case atStart => exact ⟨0, by omega, rfl, ⟨HI0.out, HB6.out⟩⟩
  case round =>
    obtain ⟨i, hi, rfl, HI⟩ := hrel
    obtain ⟨V, rfl⟩ : ∃ V, V = wr := ⟨_, rfl⟩
    by_cases hlt : i < l.length
    · obtain ⟨Nx, Ny, bs, hTw, hbo, hbl, hcn, hnx, hny⟩ := HI.out.1.ex
      have HTW := Sd.mk hTw
      have HBO := Sd.mk hbo
      have HCN := Sd.mk (And.intro hcn (And.intro hnx hny))
      have HBW := Sd.mk HI.out.2
      have HLO := Sd.mk (And.intro HI.out.1.low HI.out.1.size)
      have HBL := Sd.mk hbl
      obtain ⟨fr, hfr, hfb⟩ := some_out bs (by omega)
      have HFR : Sd (fr < l.length ∧ bs[fr]? = some false) := ⟨by omega, by rw [List.getElem?_eq_getElem hfr, hfb]⟩
      clear hTw hbo hcn hnx hny HI hbl hfr hfb
      go_upto_if 72 with fail
      go_cut [16] (fun s16 W => ∃ k : Nat, k < l.length ∧ s16 = .int .i64 k ∧ Sd (V = W))
      case first =>
        by_cases ho : i < od.length
        · obtain ⟨g, o, rfl, hg, c0⟩ := HOI.out.at' i ho
          have HPK := Sd.mk (fun W => pick_any od[i] l.length (HOI.out.wf _ (List.getElem_mem ho)) (by omega) n1 W)
          have d0 := (HBW.out.cell (p := ⟨g, o + i, none⟩) hg).trans c0
          clear c0 hg
          go_wp2_with fail
          refine (HPK.out _).mono ?_
          rintro e w7 ⟨⟨k, hk, rfl⟩, rfl⟩
          go_wp2_with fail
          go_meet
          exact ⟨k, hk, rfl, ⟨rfl⟩⟩
        · go_wp2_with fail
          go_meet
          exact ⟨i, hlt, rfl, ⟨rfl⟩⟩
      case rest =>
        obtain ⟨k0, hk0, rfl, HW⟩ := hcut
        obtain rfl := HW.out
        clear HW
        go_wp2
        go_loopw [16] (fun s16 W => ∃ k : Nat, k < l.length ∧ s16 = .int .i64 k ∧ Sd (V = W)) (fun s16 _ => away l.length fr (intOf s16).toNat)
        case atStart => exact ⟨k0, hk0, rfl, ⟨rfl⟩⟩
        case round =>
          obtain ⟨k, hk, rfl, HW⟩ := hrel
          obtain rfl := HW.out
          clear HW
          have hkb : k < bs.length := by have := HBL.out; omega
          have d0 := HBO.out.cell k hkb
          cases hbk : bs[k] with
          | true =>
            rw [hbk] at d0
            have HNE : Sd (k ≠ fr) := ⟨fun e => by
              have h2 := HFR.out.2
              rw [← e, List.getElem?_eq_getElem hkb, hbk] at h2
              cases h2⟩
            clear hbk
            go_wp2
            go_roundw
            case rel => exact ⟨(k + 1) % l.length, (away_next HFR.out.1 hk HNE.out).1, by first | rfl | (push_cast; rfl), ⟨by trivial⟩⟩
            case measure => exact (away_next HFR.out.1 hk HNE.out).2
          | false =>
            have HKF : Sd (∃ h : k < bs.length, bs[k] = false) := ⟨hkb, hbk⟩
            have HKB := Sd.mk hkb
            clear hbk
            have d1 : V.cell? ⟨IB, k, none⟩ = some (.bool false) := by
              obtain ⟨h, e⟩ := HKF.out
              have := HBO.out.cell k h
              rwa [e] at this
            clear d0
            go_wp2
            go_loopw [17, 18] (fun s17 s18 W => ∃ m : Nat, m ≤ k ∧ s18 = .int .i64 m ∧ s17 = .int .i64 ((cnt (bs.take m) : Nat) : Int) ∧ Sd (V = W)) (fun _ s18 _ => k - (intOf s18).toNat)
            case atStart => exact ⟨0, by omega, rfl, rfl, ⟨rfl⟩⟩
            case round =>
              obtain ⟨m, hm, rfl, rfl, HW⟩ := hrel
              obtain rfl := HW.out
              clear HW
              have hq64 : cnt (bs.take m) ≤ 64 := by
                have h1 := cnt_le (bs.take m)
                rw [List.length_take] at h1
                omega
              obtain ⟨q, hq⟩ : ∃ q, cnt (bs.take m) = q := ⟨_, rfl⟩
              have HQ := Sd.mk hq
              rw [hq] at hq64 ⊢
              clear hq
              by_cases hmk : m < k
              · have d2 := HBO.out.cell m (by omega)
                have hnx := cnt_take bs m (by omega)
                cases hbm : bs[m] with
                | true =>
                  rw [hbm] at d2 hnx
                  have HNX : Sd (cnt (bs.take (m + 1)) = q + 1) := ⟨by rw [hnx, HQ.out]; rfl⟩
                  clear hbm hnx d1
                  go_wp2
                  go_roundw
                  case rel => exact ⟨m + 1, by omega, by go_num, by rw [HNX.out]; push_cast; rfl, ⟨by trivial⟩⟩
                  case measure => simp [intOf]; omega
                | false =>
                  rw [hbm] at d2 hnx
                  have HNX : Sd (cnt (bs.take (m + 1)) = q) := ⟨by rw [hnx, HQ.out]; rfl⟩
                  clear hbm hnx d1
                  go_wp2
                  go_roundw
                  case rel => exact ⟨m + 1, by omega, by go_num, by rw [HNX.out], ⟨by trivial⟩⟩
                  case measure => simp [intOf]; omega
              · have hmk2 : m = k := by omega
                have HQK : Sd (cnt (bs.take k) = q) := ⟨by rw [← hmk2]; exact HQ.out⟩
                clear hmk2
                clear d1
                go_upto_if 103 with fail
                go_cut [] (fun W => Sd (∃ Ny', Two (EngP E1 T1 b1 cfgB) (EngP E2 T2 b2 cfgB) w.heap.size Nx Ny' l (sel l bs) W ∧ BoolsAt W IB bs ∧ ¬ Ny' IB ∧ Below w.heap.size w W))
                case first =>
                  by_cases hto : i < ot.length
                  · obtain ⟨g, o, rfl, hg, r0, r1, r2, r3, r4, r5, r6, r7, r8, r9, r10, r11⟩ := (HTI.out.lst.below HBW.out).cells i hto
                    have HIN := Sd.mk (HKK.out.2.1.ins HTW.out.y 0 ot[i] (HTI.out.wf _ (List.getElem_mem hto)))
                    clear hg
                    go_wp2_with fail
                    refine HIN.out.mono ?_
                    rintro e w7 ⟨rfl, hch⟩
                    obtain ⟨N7, hT7, hb7, hO7, hn7⟩ := HTW.out.chgY HKK.out.1 HKK.out.2.2 HLO.out.2 hch
                    have hB7 : BoolsAt w7 IB bs := Blk.only HBO.out hO7 HCN.out.2.2
                    have hN7 : ¬ N7 IB := fun hn => by
                      rcases hn7 _ hn with h | h
                      · exact HCN.out.2.2 h
                      · have := Blk.lt HBO.out; omega
                    have HB7 := Sd.mk (HBW.out.trans hb7)
                    clear hch hb7 hO7 hn7 r0 r1 r2 r3 r4 r5 r6 r7 r8 r9 r10 r11
                    by_cases he : insE cfgB (fun _ => 0) (sel l bs) 0 ot[i] = 0
                    · obtain ⟨g1, g2⟩ := other_gone cfgB (sel l bs) ot[i] he
                      have hde := HKK.out.2.1.del hT7.y ot[i].id
                      rw [g1, g2] at hde
                      have HDE := Sd.mk hde
                      have HT7 := Sd.mk (And.intro hT7 (And.intro hB7 hN7))
                      obtain ⟨g', o', e', _, r0, _⟩ := (HTI.out.lst.below HB7.out).cells i hto
                      injection e' with e'
                      injection e' with e1 e2
                      subst e1 e2
                      rw [he]
                      clear hde g1 g2 he hT7 hB7 hN7 HIN
                      go_wp2_with fail
                      refine HDE.out.mono ?_
                      rintro e w8 ⟨rfl, hch⟩
                      obtain ⟨N8, hT8, hb8, hO8, hn8⟩ := HT7.out.1.chgY HKK.out.1 HKK.out.2.2 HB7.out.size hch
                      have HX : Sd (∃ Ny', Two (EngP E1 T1 b1 cfgB) (EngP E2 T2 b2 cfgB) w.heap.size Nx Ny' l (sel l bs) w8 ∧ BoolsAt w8 IB bs ∧ ¬ Ny' IB ∧ Below w.heap.size w w8) := ⟨N8, hT8, Blk.only HT7.out.2.1 hO8 HT7.out.2.2, fun hn => by
                        rcases hn8 _ hn with h | h
                        · exact HT7.out.2.2 h
                        · have := Blk.lt HT7.out.2.1; omega, HB7.out.trans hb8⟩
                      clear hch hT8 hb8 hO8 hn8 r0
                      go_wp2_with fail
                      go_meet
                      exact HX
                    · have ht : (insE cfgB (fun _ => 0) (sel l bs) 0 ot[i] == 0) = false := by simp [he]
                      have hno := other_no cfgB (sel l bs) 0 ot[i] he
                      rw [hno] at hT7
                      have HX : Sd (∃ Ny', Two (EngP E1 T1 b1 cfgB) (EngP E2 T2 b2 cfgB) w.heap.size Nx Ny' l (sel l bs) w7 ∧ BoolsAt w7 IB bs ∧ ¬ Ny' IB ∧ Below w.heap.size w w7) := ⟨N7, hT7, hB7, hN7, HB7.out⟩
                      clear hno he hT7 hB7 hN7 HIN
                      go_wp2_with fail
                      go_meet
                      exact HX
                  · have HX : Sd (∃ Ny', Two (EngP E1 T1 b1 cfgB) (EngP E2 T2 b2 cfgB) w.heap.size Nx Ny' l (sel l bs) V ∧ BoolsAt V IB bs ∧ ¬ Ny' IB ∧ Below w.heap.size w V) := ⟨Ny, HTW.out, HBO.out, HCN.out.2.2, HBW.out⟩
                    go_wp2_with fail
                    go_meet
                    exact HX
                case rest =>
                  obtain ⟨N8, hT8, hB8, hN8, hb8⟩ := hcut.out
                  have hk2 : k < l.length := by have := HBL.out; have := HKB.out; omega
                  obtain ⟨hkb2, hkf⟩ := HKF.out
                  have hpo := put_ok HSET.out rfl n1 bs HBL.out k hk2 hkb2 hkf (by have := HCN.out.1; have := HBL.out; omega)
                  obtain ⟨p1, p2⟩ := put_list bs k hk2 hkb2 hkf hpo
                  have hin := HKK.out.2.1.ins hT8.y ((cnt (bs.take k) : Nat) : Int) l[k] (HLI.out.wf _ (List.getElem_mem hk2))
                  rw [p1, p2, HQK.out] at hin
                  have HIN := Sd.mk hin
                  have HT8 := Sd.mk (And.intro hT8 (And.intro hB8 (And.intro hN8 hb8)))
                  have HPC := Sd.mk (sel_put l bs k hk2 hkb2 hkf).2.2
                  obtain ⟨g, o, rfl, hg, r0, r1, r2, r3, r4, r5, r6, r7, r8, r9, r10, r11⟩ := (HLI.out.lst.below hb8).cells k hk2
                  clear hpo p1 p2 hin hT8 hB8 hN8 hb8 hg hcut hkf
                  go_wp2_with fail
                  refine HIN.out.mono ?_
                  rintro e w9 ⟨rfl, hch⟩
                  obtain ⟨N9, hT9, hb9, hO9, hn9⟩ := HT8.out.1.chgY HKK.out.1 HKK.out.2.2 (Nat.le_trans HLO.out.1 (Nat.le_of_lt (Blk.lt HT8.out.2.1))) hch
                  have hB9 : BoolsAt w9 IB bs := Blk.only HT8.out.2.1 hO9 HT8.out.2.2.1
                  have hN9 : ¬ N9 IB := fun hn => by
                    rcases hn9 _ hn with h | h
                    · exact HT8.out.2.2.1 h
                    · have := Blk.lt HT8.out.2.1; omega
                  have HB9 := Sd.mk (HT8.out.2.2.2.trans hb9)
                  have ca := hB9.cell k hkb2
                  have cf := Blk.frozen hB9
                  have cl := Blk.lt hB9
                  have HX : Sd (AlikeI (EngP E1 T1 b1 cfgB) (EngP E2 T2 b2 cfgB) w.heap.size IB l (i + 1) (w9.setCell ⟨IB, k, none⟩ (.bool true)) ∧ Below w.heap.size w (w9.setCell ⟨IB, k, none⟩ (.bool true))) := ⟨⟨⟨Nx, N9, bs.set k true, hT9.mark hB9 HCN.out.2.1 hN9 k, hB9.set k, by rw [List.length_set]; exact HBL.out, by rw [HPC.out, HCN.out.1], HCN.out.2.1, hN9⟩, HLO.out.1, by have := HB9.out.size; simpa using this⟩, below_set HB9.out HLO.out.1⟩
                  clear hch hT9 hb9 hO9 hn9 hB9 hN9 r0 r1 r2 r3 r4 r5 r6 r7 r8 r9 r10 r11
                  go_wp2_with fail
                  go_roundw
                  case rel => exact ⟨i + 1, by omega, by go_num, HX⟩
                  case measure => simp [intOf]; omega
    · obtain ⟨Nx, Ny, bs, hTw, hbo, hbl, hcn, hnx, hny⟩ := HI.out.1.ex
      have hall : sel l bs = l := sel_all l bs hbl (by omega)
      rw [hall] at hTw
      have HTW := Sd.mk hTw
      have HBW := Sd.mk HI.out.2
      clear hTw hbo hbl hcn hnx hny hall HI
      go_wp2
      go_loopw [19] (fun s19 W => ∃ n : Nat, n ≤ hs.length ∧ s19 = .int .i64 n ∧ Sd (Two (EngP E1 T1 b1 cfgB) (EngP E2 T2 b2 cfgB) w.heap.size Nx Ny l l W ∧ Below w.heap.size w W)) (fun s19 _ => hs.length - (intOf s19).toNat)
      case atStart => exact ⟨0, by omega, rfl, ⟨HTW.out, HBW.out⟩⟩
      case round =>
        obtain ⟨n, hn, rfl, HJ⟩ := hrel
        obtain ⟨U, rfl⟩ : ∃ U, U = wr := ⟨_, rfl⟩
        by_cases hnl : n < hs.length
        · obtain ⟨hg, ho, rfl, hgl, c0, c1, c2, c3, c4⟩ := (HHI.out.lst.below HJ.out.2).cells n hnl
          have hhw := HHI.out.wf _ (List.getElem_mem hnl)
          obtain ⟨s0, s1, s2, s3, s4, _, _, _, _, ka, _, _⟩ := HKK.out.1.ask HJ.out.1.x hs[n] hhw
          obtain ⟨u0, u1, u2, u3, u4, _, _, _, _, kb, _, _⟩ := HKK.out.2.1.ask HJ.out.1.y hs[n] hhw
          obtain ⟨hit, vid, act, hm, _⟩ := match_shape l cfgB.dflt hs[n]
          rw [hm] at ka kb
          have HKA := Sd.mk (ka U (Below.refl _ _))
          have HKB := Sd.mk kb
          clear ka kb hm hhw hgl
          go_wp2_with fail
          refine HKA.out.mono ?_
          rintro x w7 ⟨rfl, hb7⟩
          clear c0 c1 c2 c3 c4
          go_upto_region 36 with fail
          obtain ⟨W8, hW8⟩ : ∃ W8, (w7.alloc (.cells #[.bool hit, .int .i64 vid, .int .i64 act] 36)).alloc (.cells #[.int .i64 s0, .int .i64 s1, .int .i64 s2, .int .i64 s3, .int .i64 s4] 38) = W8 := ⟨_, rfl⟩
          have hb8 : Below U.heap.size U W8 := by rw [← hW8]; exact below_alloc (below_alloc hb7 _) _
          have X1 : Sd (Blk W8 w7.heap.size #[.bool hit, .int .i64 vid, .int .i64 act] 36) := ⟨by rw [← hW8]; exact (Blk.new _ _ _).alloc _⟩
          try rw [hW8]
          generalize w7.heap.size = P1 at X1 ⊢
          have HB8 := Sd.mk hb8
          obtain ⟨hg', ho', he, _, c0, c1, c2, c3, c4⟩ := (HHI.out.lst.below (beyond HJ.out.2 hb8)).cells n hnl
          injection he with he
          injection he with e1 e2
          subst e1 e2
          have HKC := Sd.mk (HKB.out W8 hb8)
          clear hW8 hb7 hb8
          go_wp2_with fail
          refine HKC.out.mono ?_
          rintro x w9 ⟨rfl, hb9⟩
          clear c0 c1 c2 c3 c4
          go_upto_region 37 with fail
          obtain ⟨W10, hW10⟩ : ∃ W10, (w9.alloc (.cells #[.bool hit, .int .i64 vid, .int .i64 act] 36)).alloc (.cells #[.int .i64 u0, .int .i64 u1, .int .i64 u2, .int .i64 u3, .int .i64 u4] 38) = W10 := ⟨_, rfl⟩
          have hb10 : Below W8.heap.size W8 W10 := by rw [← hW10]; exact below_alloc (below_alloc hb9 _) _
          have x2 : Blk W10 w9.heap.size #[.bool hit, .int .i64 vid, .int .i64 act] 36 := by rw [← hW10]; exact (Blk.new _ _ _).alloc _
          have x1 := X1.out.below hb10 X1.out.lt
          try rw [hW10]
          generalize w9.heap.size = P2 at x2 ⊢
          have d0 := x1.cell (i := 0) rfl
          have d1 := x1.cell (i := 1) rfl
          have d2 := x1.cell (i := 2) rfl
          have d3 := x2.cell (i := 0) rfl
          have d4 := x2.cell (i := 1) rfl
          have d5 := x2.cell (i := 2) rfl
          have hbx := beyond HB8.out hb10
          have HN : Sd (Two (EngP E1 T1 b1 cfgB) (EngP E2 T2 b2 cfgB) w.heap.size Nx Ny l l W10 ∧ Below w.heap.size w W10) := ⟨HJ.out.1.more HKK.out.1 HKK.out.2.1 hbx, beyond HJ.out.2 hbx⟩
          have hqn := neqVx hit vid act
          have hgn := guardVn
          clear hW10 hb9 hb10 x1 x2 hbx
          go_wp2_with fail
          go_roundw
          case rel => exact ⟨n + 1, by omega, by go_num, HN⟩
          case measure => simp [intOf]; omega
        · go_wp2_with fail
          refine (HAW.out _).mono ?_
          rintro x w11 ⟨rfl, hb11⟩
          have HZ := Sd.mk (beyond HJ.out.2 hb11)
          clear hb11
          go_wp2_with fail
          go_ret
          exact ⟨rfl, HZ.out⟩
set_option maxHeartbeats 4000000 in
set_option maxRecDepth 100000 in
theorem lawAlike_off (l : List Rul) (A : Option Addr) (cap : Nat) (od : List Int) (OA : Option Addr) (ocap : Nat) (ot : List Rul) (TA : Option Addr) (tcap : Nat) (hs : List Hdr) (HA : Option Addr) (hcap : Nat) (w : World) (hoff : 64 < l.length ∨ 64 < ot.length ∨ 2000 < hs.length) :
    Calls Try.prog 4 #[.slice A l.length cap, .slice OA od.length ocap, .slice TA ot.length tcap, .slice HA hs.length hcap] w fun e w' => e = .returned (.bool true) ∧ Below w.heap.size w w' := by
  by_cases h1 : 64 < l.length
  · clear hoff
    go_enter Try.func4, Try.ntmps4
    go_wp2_with fail
    go_ret
    exact ⟨rfl, Below.refl _ _⟩
  · by_cases h2 : 64 < ot.length
    · clear hoff
      go_enter Try.func4, Try.ntmps4
      go_wp2_with fail
      go_ret
      exact ⟨rfl, Below.refl _ _⟩
    · have h3 : 2000 < hs.length := by omega
      clear hoff
      go_enter Try.func4, Try.ntmps4
      go_wp2_with fail
      go_ret
      exact ⟨rfl, Below.refl _ _⟩
set_option maxHeartbeats 4000000 in
set_option maxRecDepth 100000 in
theorem lawAlike_no (l : List Rul) (A : Option Addr) (cap : Nat) (od : List Int) (OA : Option Addr) (ocap : Nat) (ot : List Rul) (TA : Option Addr) (tcap : Nat) (hs : List Hdr) (HA : Option Addr) (hcap : Nat) (w : World) (hL : RulesIn w A cap l)
    (n1 : l.length ≤ 64) (n2 : ot.length ≤ 64) (n3 : hs.length ≤ 2000) (hset : setI cfgB l ≠ 0) :
    Calls Try.prog 4 #[.slice A l.length cap, .slice OA od.length ocap, .slice TA ot.length tcap, .slice HA hs.length hcap] w fun e w' => e = .returned (.bool true) ∧ Below w.heap.size w w' := by
  have HAW := Sd.mk awake_any
  have HN : Sd (∀ W, Calls Try.prog 10 #[.agg #[.int .i64 64, .int .i64 4, .int .i64 1048576, .int .i64 1048576, .int .i64 1048576, .int .i64 4, .int .i64 8]] W fun e w' => ∃ E T base, e = .returned (.tuple #[.pointer (some ⟨E, 0, none⟩), .int .i64 0]) ∧ (∃ N, EngP E T base cfgB w' N [] ∧ ∀ k, N k → W.heap.size ≤ k) ∧ Below W.heap.size W w') := ⟨fun W => eng_new cfgB W cfgB_ok⟩
  have HLI := Sd.mk hL
  have HSET := Sd.mk hset
  clear hL hset
  go_enter Try.func4, Try.ntmps4
  go_upto_region 4 with fail
  obtain ⟨W2, hW2⟩ : ∃ W2, w.alloc (.cells #[.int .i64 64, .int .i64 4, .int .i64 1048576, .int .i64 1048576, .int .i64 1048576, .int .i64 4, .int .i64 8] 24) = W2 := ⟨_, rfl⟩
  have hb2 : Below w.heap.size w W2 := by rw [← hW2]; exact below_alloc (Below.refl _ _) _
  have hc2 : Blk W2 w.heap.size #[.int .i64 64, .int .i64 4, .int .i64 1048576, .int .i64 1048576, .int .i64 1048576, .int .i64 4, .int .i64 8] 24 := by rw [← hW2]; exact Blk.new _ _ _
  try rw [hW2]
  have HB2 := Sd.mk hb2
  have HC2 := Sd.mk hc2
  have f0 : W2.cell? ⟨w.heap.size, 0, none⟩ = some (.int .i64 64) := hc2.cell (i := 0) rfl
  have f1 : W2.cell? ⟨w.heap.size, 1, none⟩ = some (.int .i64 4) := hc2.cell (i := 1) rfl
  have f2 : W2.cell? ⟨w.heap.size, 2, none⟩ = some (.int .i64 1048576) := hc2.cell (i := 2) rfl
  have f3 : W2.cell? ⟨w.heap.size, 3, none⟩ = some (.int .i64 1048576) := hc2.cell (i := 3) rfl
  have f4 : W2.cell? ⟨w.heap.size, 4, none⟩ = some (.int .i64 1048576) := hc2.cell (i := 4) rfl
  have f5 : W2.cell? ⟨w.heap.size, 5, none⟩ = some (.int .i64 4) := hc2.cell (i := 5) rfl
  have f6 : W2.cell? ⟨w.heap.size, 6, none⟩ = some (.int .i64 8) := hc2.cell (i := 6) rfl
  clear hW2 hb2 hc2
  go_wp2_with fail
  refine (HN.out _).mono ?_
  rintro e w3 ⟨E1, T1, b1, rfl, ⟨N1, hp1, hn1⟩, hb3⟩
  have hc3 := HC2.out.below hb3 HC2.out.lt
  have HB3 := Sd.mk (beyond HB2.out hb3)
  clear f0 f1 f2 f3 f4 f5 f6
  have f0 : w3.cell? ⟨w.heap.size, 0, none⟩ = some (.int .i64 64) := hc3.cell (i := 0) rfl
  have f1 : w3.cell? ⟨w.heap.size, 1, none⟩ = some (.int .i64 4) := hc3.cell (i := 1) rfl
  have f2 : w3.cell? ⟨w.heap.size, 2, none⟩ = some (.int .i64 1048576) := hc3.cell (i := 2) rfl
  have f3 : w3.cell? ⟨w.heap.size, 3, none⟩ = some (.int .i64 1048576) := hc3.cell (i := 3) rfl
  have f4 : w3.cell? ⟨w.heap.size, 4, none⟩ = some (.int .i64 1048576) := hc3.cell (i := 4) rfl
  have f5 : w3.cell? ⟨w.heap.size, 5, none⟩ = some (.int .i64 4) := hc3.cell (i := 5) rfl
  have f6 : w3.cell? ⟨w.heap.size, 6, none⟩ = some (.int .i64 8) := hc3.cell (i := 6) rfl
  have HP1 := Sd.mk (And.intro hp1 (fun k hk => Nat.le_trans HB2.out.size (hn1 k hk)))
  clear hp1 hn1 hb3 hc3
  go_wp2_with fail
  refine (HN.out _).mono ?_
  rintro e w4 ⟨E2, T2, b2, rfl, _, hb4⟩
  have HB4 := Sd.mk (beyond HB3.out hb4)
  have hsx := (eng_kind E1 T1 b1 cfgB).set ((eng_kind E1 T1 b1 cfgB).below HP1.out.1 hb4) l A cap HLI.out.wf (by omega) HLI.out.le (HLI.out.lst.below HB4.out) (fun h0 a ha hn => by
    obtain ⟨g, o, e1, e2, _⟩ := HLI.out.lst.at' 0 h0
    rw [ha] at e1; injection e1 with e1; subst e1
    have := HP1.out.2 _ hn; simp only at *; omega)
  rw [setE_zero] at hsx
  have HSX := Sd.mk hsx
  have ht : (setI cfgB l != 0) = true := by simp [HSET.out]
  have HLO := Sd.mk HP1.out.2
  clear f0 f1 f2 f3 f4 f5 f6 hb4 HP1 hsx
  go_wp2_with fail
  refine HSX.out.mono ?_
  rintro e w5 ⟨rfl, hch⟩
  have HB5 := Sd.mk (HB4.out.trans (hch.1.below w.heap.size HB4.out.size HLO.out))
  clear hch
  go_wp2_with fail
  refine (HAW.out _).mono ?_
  rintro x w6 ⟨rfl, hb6⟩
  have HZ := Sd.mk (beyond HB5.out hb6)
  clear hb6
  go_wp2_with fail
  go_ret
  exact ⟨rfl, HZ.out⟩
theorem lawAlike_any (l : List Rul) (A : Option Addr) (cap : Nat) (od : List Int) (OA : Option Addr) (ocap : Nat) (ot : List Rul) (TA : Option Addr) (tcap : Nat) (hs : List Hdr) (HA : Option Addr) (hcap : Nat) (w : World) (hL : RulesIn w A cap l) (hO : IntsIn w OA ocap od) (hT : RulesIn w TA tcap ot) (hH : HdrsIn w HA hcap hs) :
    Calls Try.prog 4 #[.slice A l.length cap, .slice OA od.length ocap, .slice TA ot.length tcap, .slice HA hs.length hcap] w fun e w' => e = .returned (.bool true) ∧ Below w.heap.size w w' := by
  by_cases h1 : 64 < l.length ∨ 64 < ot.length ∨ 2000 < hs.length
  · exact lawAlike_off l A cap od OA ocap ot TA tcap hs HA hcap w h1
  · by_cases h2 : setI cfgB l = 0
    · exact lawAlike_on l A cap od OA ocap ot TA tcap hs HA hcap w hL hO hT hH (by omega) (by omega) (by omega) h2
    · exact lawAlike_no l A cap od OA ocap ot TA tcap hs HA hcap w hL (by omega) (by omega) (by omega) h2
section
variable {H : Type} {enc : TypeId × Value → H} {w : World} {base : Nat} {spare : Nat → Bool} {held : Bool}
theorem open_ints_in {t : TypeId} {A : Option Addr} {n cap : Nat} {d : DataW H} {p : List MemPlace} (ht : t = 47) (h : DataW.Trod enc Try.prog w base spare held t (.slice A n cap) d p) : ∃ ns : List Int, ns.length = n ∧ IntsIn w A cap ns := by
  subst ht
  obtain ⟨_, hf⟩ := h
  obtain ⟨h1, h2, h3, h4⟩ := open_elems (c := 1) Try.underlying47 (by kernel_rfl) (by omega) hf
  obtain ⟨ns, hl, hrs⟩ := exists_list (P := fun i (x : Int) => I64 x ∧ ∃ g o, A = some ⟨g, o, none⟩ ∧ g < w.heap.size ∧ w.cell? ⟨g, o + i, none⟩ = some (.int .i64 x)) n (fun i hi => by
    obtain ⟨g, o, cs, k, y, e1, e2, e3, e4, e5⟩ := h4 i hi
    match cs, e3 with
    | [c], _ =>
      obtain ⟨m, rfl, _, g0⟩ := field_int (i := 0) Try.underlying3 (by kernel_rfl) rfl (L := [c]) (by
        rw [show Try.prog.cellsOf 3 = 1 by kernel_rfl]
        exact e4)
      exact ⟨m, wf_i64 g0, g, o, e1, e2, by have := e5 0 _ rfl; simpa using this⟩)
  refine ⟨ns, hl, ⟨fun k hk => ?_, fun x hx => ?_, by omega⟩⟩
  · obtain ⟨_, g, o, e1, e2, e3⟩ := hrs k hk
    exact ⟨g, o, e1, e2, e3⟩
  · obtain ⟨k, hk, rfl⟩ := List.mem_iff_getElem.1 hx
    exact (hrs k hk).1
end
end Go.Proofs.Ytljliopmphaoeaa
