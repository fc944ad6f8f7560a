/- Walks: play. -/
import Derived.Test.YtibkmhacpodceaaW45
import Derived.Test.YtibkmhacpodceaaW46
namespace Go.Proofs.Ytibkmhacpodceaa
open Go.RowKit

set_option maxRecDepth 100000 in
set_option maxHeartbeats 8000000 in
theorem play6_rest (o : Own) (wb : Nat) (W : WorldM) (d0 d1 d2 : Int) (w : World) (k1 : (d0 == 1) = false) (k3 : (d0 == 3) = false) (h : WorldAt o w wb W) (hr : Ready W) (hw : Wf o w) :
    Calls Try.prog 6 #[.pointer (some ⟨wb, 0, none⟩), .agg #[.int .i64 d0, .int .i64 d1, .int .i64 d2]] w (PlayIs o wb W w) := by
  have HR := Lib.hid hr
  obtain ⟨p, vs, vc, vl, hin⟩ := h.in_
  have HI := Lib.hid hin
  clear h hr hin
  have HBA : Hid (Below w.heap.size w (w.alloc (.cells #[.int .i64 d0, .int .i64 d1, .int .i64 d2] 28))) := (Below.refl _ _).alloc (Nat.le_refl _) _
  have HB0 := Lib.hid (Blk.new w 28 [.int .i64 d0, .int .i64 d1, .int .i64 d2])
  obtain ⟨q, hq3, hqe⟩ := bits_and3 d1
  go_enter Try.func6, Try.ntmps6
  go_upto_if 21 with (fail)
  go_cut [5] (fun s wx => ∃ k : Nat, 1 ≤ k ∧ k ≤ 5 ∧ s = .int .i64 k ∧ Hid (Below w.heap.size w wx ∧ Blk wx w.heap.size 28 [.int .i64 d0, .int .i64 d1, .int .i64 d2]))
  case first =>
    cases hb4 : (bits .and .i64 d1 4 != 0)
    · go_wp2_with fail
      go_meet
      exact ⟨1 + q, by omega, by omega, by go_num, HBA.out, HB0.out⟩
    · go_wp2_with fail
      go_meet
      exact ⟨5, by omega, by omega, rfl, HBA.out, HB0.out⟩
  case rest =>
    obtain ⟨k, hk1, hk5, rfl, HX⟩ := hcut
    have HC : Hid (WorldIn o wc wb W p vs vc vl ∧ Ext Owners o o w wc ∧ Blk wc w.heap.size 28 [.int .i64 d0, .int .i64 d1, .int .i64 d2]) := ⟨HI.out.below hw HX.out.1, Ext.of_below HX.out.1 hw, HX.out.2⟩
    have HWC : Hid (Wf o wc) := HC.out.2.1.wf hw
    clear hqe HBA HB0 HX HI
    have kd := HC.out.2.2.cells
    have hld := HC.out.2.2.lt
    have kn : wc.cell? ⟨wb, k, none⟩ = some (.pointer (some ⟨p k, 0, none⟩)) := by rw [HC.out.1.blk.cells]; exact worldCells_at p _ _ _ k hk1 hk5
    have hlw := HC.out.1.blk.lt
    go_upto_block 0 with (fail)
    go_cut [5, 7] (fun s5 s7 wx => Hid (PlayMid o wb W w s5 s7 wx))
    case first =>
      cases k0 : (d0 == 0)
      · skip
        · cases k2 : (d0 == 2)
          · skip
            · cases k4 : (d0 == 4)
              · cases k5 : (d0 == 5)
                · go_wp2_with fail
                  go_ret
                  exact ⟨0, o, rfl, HC.out.2.1, .inl ⟨rfl, HC.out.1.at_⟩⟩
                · obtain ⟨g1, g2, g3, g4, g5, g6, g7⟩ := HR.out.fits k hk1 hk5
                  have HG := Lib.hid (And.intro g1 (And.intro g5 g6))
                  clear g1 g2 g3 g4 g5 g6 g7
                  go_wp2_with fail
                  refine (log14 o (2 * k) (2 * k + 1) (p k) (W.node k) _ (HC.out.1.nodes k hk1 (by omega)) (by have := HG.out.1.ok.log.mlen; omega) HWC.out).mono ?_
                  rintro e w1 ⟨b1, o1, rfl, hL1, hE1⟩
                  have HL1 := Lib.hid hL1
                  have HE1 := Lib.hid hE1
                  have HRN := Lib.hid ((HC.out.1.ext hE1).nodes k hk1 (by omega))
                  clear hL1 hE1
                  go_wp2_with fail
                  refine (term20 o1 (2 * k) (2 * k + 1) (p k) (W.node k) _ HRN.out).mono ?_
                  rintro e w' ⟨rfl, rfl⟩
                  go_wp2_with fail
                  refine (vote21 o1 (2 * k) (2 * k + 1) (p k) (W.node k) _ HRN.out).mono ?_
                  rintro e w' ⟨rfl, rfl⟩
                  go_wp2_with fail
                  refine (state22 o1 (2 * k) (2 * k + 1) (p k) (W.node k) _ HRN.out (by have := HG.out.1.ok.state; omega)).mono ?_
                  rintro e w2 ⟨v2, rfl, hB2, hb2⟩
                  have HWF1 : Hid (Wf o1 w') := HE1.out.wf HWC.out
                  have HE2 : Hid (Ext [] o1 o1 w' w2) := Ext.of_below hb2 HWF1.out
                  obtain ⟨A2, c2, xs2, rfl, hB2'⟩ := id hB2
                  have HD2 : Hid (BytesAt (Of o1 0) w2 (.slice A2 (W.node k).state.length c2) (W.node k).state) := BytesAt.stays hB2 (Stays.weak _ fun x hx => HWF1.out x hx)
                  have HL2 : Hid (LogAt o1 (2 * k + 1) w2 b1 (W.node k).log) := HL1.out.ext HE2.out (by simp) (by simp)
                  clear hB2 hB2' hb2
                  go_wp2_with fail
                  refine (new9 o1 (2 * k) (2 * k + 1) b1 _ 7 k (W.node k).term (W.node k).vote (W.node k).state _ _ _ _ HL2.out HG.out.1.ok.log (by decide) (by decide) (by omega) (by omega) HG.out.1.ok.t0 HG.out.1.ok.t1 HG.out.2.1 HG.out.2.2 HD2.out HG.out.1.ok.state (HE2.out.wf HWF1.out) (by omega) (by omega)).mono ?_
                  rintro e w3 ⟨b3, o3, rfl, hR3, hE3⟩
                  have HE3 := Lib.hid ((HE1.out.trans HE2.out).trans hE3)
                  have HW3 := Lib.hid (HC.out.1.ext HE3.out)
                  have HR3 := Lib.hid hR3
                  have hlt3 := HW3.out.blk.lt
                  have f3 := HW3.out.blk.frozens
                  have c3 : w3.cell? ⟨wb, k, none⟩ = some (.pointer (some ⟨p k, 0, none⟩)) := by rw [HW3.out.blk.cells]; exact worldCells_at p _ _ _ k hk1 hk5
                  clear hR3 hE3
                  go_wp2_with fail
                  go_meet
                  exact ⟨k, RaftM.fresh k (W.node k).term (W.node k).vote (W.node k).log (W.node k).state, o3, fun j => if j = k then b3 else p j, vs, vc, vl, Any, hk1, hk5, rfl, .fresh, (HC.out.2.1.trans (HE3.out.mono (by simp))).trans ((Ext.refl Owners o3 w3).setCell (.inr (by simp [HW3.out.own, Owners])) _), HW3.out.putNode hk1 hk5 HR3.out, SliceOf.nil_⟩
              · obtain ⟨g1, g2, g3, g4, g5, g6, g7⟩ := HR.out.fits k hk1 hk5
                have HG := Lib.hid (And.intro g1 g4)
                clear g1 g2 g3 g4 g5 g6 g7
                go_wp2_with fail
                refine (log14 o (2 * k) (2 * k + 1) (p k) (W.node k) _ (HC.out.1.nodes k hk1 (by omega)) (by have := HG.out.1.ok.log.mlen; omega) HWC.out).mono ?_
                rintro e w1 ⟨b1, o1, rfl, hL1, hE1⟩
                have HL1 := Lib.hid hL1
                have HE1 := Lib.hid hE1
                clear hL1 hE1
                go_wp2_with fail
                refine (commit19 o1 (2 * k + 1) b1 _ _ HL1.out).mono ?_
                rintro e w' ⟨rfl, rfl⟩
                go_wp2_with fail
                refine (commit19 o1 (2 * k + 1) b1 _ _ HL1.out).mono ?_
                rintro e w' ⟨rfl, rfl⟩
                go_wp2_with fail
                have hc0 := HG.out.1.ok.log.c0
                have hc1 := HG.out.1.ok.log.c1
                have hc2 := HG.out.1.ok.log.i0
                have hc3 := HG.out.1.i
                have HA := Lib.hid (HE1.out.alloc (.cells #[.int .u8 ((W.node k).log.commit % 256)] 5))
                have HD : Hid (BytesAt (Of o1 0) (w'.alloc (.cells #[.int .u8 ((W.node k).log.commit % 256)] 5)) (.slice (some ⟨w'.heap.size, 0, none⟩) 1 1) [(W.node k).log.commit % 256]) := SliceOf.one (Blk.new w' 5 [.int .u8 ((W.node k).log.commit % 256)]) ((HE1.out.wf HWC.out) _ (Nat.le_refl _)) rfl ⟨rfl, by omega, by omega⟩
                refine (compact18 o1 (2 * k) (2 * k + 1) (p k) (W.node k) (W.node k).log.commit [(W.node k).log.commit % 256] _ 1 1 Any _ ((HC.out.1.ext HA.out).nodes k hk1 (by omega)) HG.out.1 (by omega) (by omega) (by simp) (BytesAt.stays HD.out (Stays.weak _ fun _ _ => trivial)) (fun o' w9 he => BytesAt.stays (BytesAt.stays HD.out (he.stays (k := 0) (by simp))) (Stays.weak _ fun _ _ => trivial)) (HA.out.wf HWC.out) (by omega) (by omega) (by omega)).mono ?_
                rintro e w2 ⟨⟨v2, rfl⟩, o2, hR2, hE2⟩
                have HO : Hid (((W.node k).compact (W.node k).log.commit [(W.node k).log.commit % 256]).out = []) := by
                  unfold Hid RaftM.compact; split <;> exact HG.out.2
                have HQ := Lib.hid (PlayMid.of HC.out.1 HC.out.2.1 HA.out hk1 hk5 (.compact _ _ (by simp)) (OutIs.none_ hR2 hE2 HO.out))
                clear hR2 hE2
                go_wp2_with fail
                go_meet
                exact HQ
          · obtain ⟨g1, g2, g3, g4, g5, g6, g7⟩ := HR.out.fits k hk1 hk5
            have HG := Lib.hid (And.intro g1 (And.intro g2 (And.intro g3 g4)))
            clear g1 g2 g3 g4 g5 g6 g7
            have HA := Lib.hid ((Ext.refl [] o wc).alloc (.cells #[.int .u8 (d2 % 256)] 5))
            go_wp2_with fail
            refine (propose13 o (2 * k) (2 * k + 1) (p k) (W.node k) [d2 % 256] _ 1 1 Any _ ((HC.out.1.ext HA.out).nodes k hk1 (by omega)) HG.out.1 (by simp) (SliceOf.one (Blk.new wc 5 [.int .u8 (d2 % 256)]) trivial rfl ⟨rfl, by omega, by omega⟩) HG.out.2.2.2 (HA.out.wf HWC.out) (by omega) (by omega) (by omega)).mono ?_
            rintro e w2 ⟨v2, rfl, hO2⟩
            have HQ := Lib.hid (PlayMid.of HC.out.1 HC.out.2.1 HA.out hk1 hk5 (.propose _ (by simp)) hO2)
            clear hO2
            go_wp2_with fail
            go_meet
            exact HQ
      · obtain ⟨g1, g2, g3, g4, g5, g6, g7⟩ := HR.out.fits k hk1 hk5
        have HG := Lib.hid (And.intro g1 (And.intro g2 g3))
        clear g1 g2 g3 g4 g5 g6 g7
        go_wp2_with fail
        refine (tick10 o (2 * k) (2 * k + 1) (p k) (W.node k) d2 _ (HC.out.1.nodes k hk1 (by omega)) HG.out.1 HG.out.2.1 HG.out.2.2 HWC.out (by omega) (by omega) (by omega)).mono ?_
        rintro e w2 ⟨v2, rfl, hO2⟩
        have HQ := Lib.hid (PlayMid.of HC.out.1 HC.out.2.1 (Ext.refl [] o wc) hk1 hk5 (.tick d2) hO2)
        clear hO2
        go_wp2_with fail
        go_meet
        exact HQ
    case rest =>
      obtain ⟨k', r', o', p', vs', vc', vl', B', h1, h5, rfl, hN, hE, hin, hx⟩ := hcut.out
      have HE := Lib.hid (And.intro hN hE)
      have HS := Lib.hid (sent_step hin hx (HR.out.len k' r' (by omega) (by omega) hN))
      have kw := hin.blk.cells
      have kw6 : wc.cell? ⟨wb, 6, none⟩ = some vs' := by rw [hin.blk.cells]; rfl
      have hlw2 := hin.blk.lt
      clear hcut hN hE hin hx kd kn hld hlw kw
      go_wp2_with (at_builtin; refine wpList_append_ex rfl (.tmp 155) (.tmp 156) 39 rfl _ _ _ rfl rfl HS.out ?_; rintro v' w' ⟨⟨A9, k9, c9, rfl⟩, hl2, f2, q2, HQ⟩)
      go_ret
      obtain ⟨o3, hW3, hE3⟩ := HQ.out
      exact ⟨k', o3, rfl, HE.out.2.trans (hE3.mono (by simp [Owners])), .inr ⟨h1, h5, r', HE.out.1, hW3.at_⟩⟩

theorem play6 (o : Own) (wb : Nat) (W : WorldM) (d0 d1 d2 : Int) (w : World) (h : WorldAt o w wb W) (hr : Ready W) (hw : Wf o w) :
    Calls Try.prog 6 #[.pointer (some ⟨wb, 0, none⟩), .agg #[.int .i64 d0, .int .i64 d1, .int .i64 d2]] w (PlayIs o wb W w) := by
  cases k1 : (d0 == 1)
  · cases k3 : (d0 == 3)
    · exact play6_rest o wb W d0 d1 d2 w k1 k3 h hr hw
    · obtain rfl : d0 = 3 := by simpa using k3
      exact play6_change o wb W d1 d2 w h hr hw
  · obtain rfl : d0 = 1 := by simpa using k1
    exact play6_step o wb W d1 d2 w h hr hw
end Go.Proofs.Ytibkmhacpodceaa
