/- Walks: play: a change. -/
import Derived.Test.YtibkmhacpodceaaW44
namespace Go.Proofs.Ytibkmhacpodceaa
open Go.RowKit

set_option maxRecDepth 100000 in
set_option maxHeartbeats 8000000 in
theorem play6_change (o : Own) (wb : Nat) (W : WorldM) (d1 d2 : Int) (w : World) (h : WorldAt o w wb W) (hr : Ready W) (hw : Wf o w) :
    Calls Try.prog 6 #[.pointer (some ⟨wb, 0, none⟩), .agg #[.int .i64 3, .int .i64 d1, .int .i64 d2]] w (PlayIs o wb W w) := by
  have HR := Lib.hid hr
  obtain ⟨p, vs, vc, vl, hin⟩ := h.in_
  have HI := Lib.hid hin
  clear h hr hin
  have HBA : Hid (Below w.heap.size w (w.alloc (.cells #[.int .i64 3, .int .i64 d1, .int .i64 d2] 28))) := (Below.refl _ _).alloc (Nat.le_refl _) _
  have HB0 := Lib.hid (Blk.new w 28 [.int .i64 3, .int .i64 d1, .int .i64 d2])
  obtain ⟨q, hq3, hqe⟩ := bits_and3 d1
  go_enter Try.func6, Try.ntmps6
  go_upto_if 21 with (fail)
  go_cut [5] (fun s wx => ∃ k : Nat, 1 ≤ k ∧ k ≤ 5 ∧ s = .int .i64 k ∧ Hid (Below w.heap.size w wx ∧ Blk wx w.heap.size 28 [.int .i64 3, .int .i64 d1, .int .i64 d2]))
  case first =>
    cases hb4 : (bits .and .i64 d1 4 != 0)
    · go_wp2_with fail
      go_meet
      exact ⟨1 + q, by omega, by omega, by go_num, HBA.out, HB0.out⟩
    · go_wp2_with fail
      go_meet
      exact ⟨5, by omega, by omega, rfl, HBA.out, HB0.out⟩
  case rest =>
    obtain ⟨k, hk1, hk5, rfl, HX⟩ := hcut
    have HC : Hid (WorldIn o wc wb W p vs vc vl ∧ Ext Owners o o w wc ∧ Blk wc w.heap.size 28 [.int .i64 3, .int .i64 d1, .int .i64 d2]) := ⟨HI.out.below hw HX.out.1, Ext.of_below HX.out.1 hw, HX.out.2⟩
    have HWC : Hid (Wf o wc) := HC.out.2.1.wf hw
    clear hqe HBA HB0 HX HI
    have kd := HC.out.2.2.cells
    have hld := HC.out.2.2.lt
    have kn : wc.cell? ⟨wb, k, none⟩ = some (.pointer (some ⟨p k, 0, none⟩)) := by rw [HC.out.1.blk.cells]; exact worldCells_at p _ _ _ k hk1 hk5
    have hlw := HC.out.1.blk.lt
    go_upto_block 0 with (fail)
    go_cut [5, 7] (fun s5 s7 wx => Hid (PlayMid o wb W w s5 s7 wx))
    case first =>
      obtain ⟨g1, g2, g3, g4, g5, g6, g7⟩ := HR.out.fits k hk1 hk5
      have HG := Lib.hid (And.intro g1 g4)
      clear g1 g2 g3 g4 g5 g6 g7
      go_wp2_with fail
      refine (log14 o (2 * k) (2 * k + 1) (p k) (W.node k) _ (HC.out.1.nodes k hk1 (by omega)) (by have := HG.out.1.ok.log.mlen; omega) HWC.out).mono ?_
      rintro e w1 ⟨b1, o1, rfl, hL1, hE1⟩
      have HL1 := Lib.hid hL1
      have HE1 := Lib.hid hE1
      have HWF1 : Hid (Wf o1 w1) := hE1.wf HWC.out
      have HBX := Lib.hid (hE1.blk HC.out.2.2 (by simp))
      have kx := HBX.out.cells
      have hlx := HBX.out.lt
      have hE1own : o1 w.heap.size = o w.heap.size := hE1.own _ HC.out.2.2.lt
      clear hL1 hE1
      have HOX : Hid (o1 w.heap.size = 0) := (hE1own).trans (hw _ (Nat.le_refl _))
      clear hE1own
      go_upto_region 24 with (fail)
      -- BLOCK ch
      have hS : (fun w' : World => (∀ i, w'.cell? ⟨w.heap.size, i, none⟩ = [Value.int .i64 3, .int .i64 d1, .int .i64 d2][i]?)) w1.drew := kx
      refine wp_region_T 12 (fun w' : World => (∀ i, w'.cell? ⟨w.heap.size, i, none⟩ = [Value.int .i64 3, .int .i64 d1, .int .i64 d2][i]?)) (by kernel_rfl) ?_
      refine anyN_takeL (i := 0) (v := ?vc0) rfl (by kernel_rfl) (by kernel_rfl) (by kernel_rfl) (Nat.le_refl 12) (by kernel_rfl) (fun _ _ _ h => h) (Or.inl ⟨by rfl, fun wS hSw => ?hyc0⟩) hS ?rec0
      case hyc0 => (dsimp only at hSw; obtain hS1 := hSw; go_simp; try with_reducible rfl)
      try simp only [Act.put, List.setIfInBounds_toArray, List.set_cons_zero, List.set_cons_succ]
      refine anyN_takeL (i := 1) (v := ?vc1) rfl (by kernel_rfl) (by kernel_rfl) (by kernel_rfl) (Nat.le_refl 12) (by kernel_rfl) (fun _ _ _ h => h) (Or.inl ⟨by rfl, fun wS hSw => ?hyc1⟩) hS ?rec1
      case hyc1 => (dsimp only at hSw; obtain hS1 := hSw; go_simp; try with_reducible rfl)
      try simp only [Act.put, List.setIfInBounds_toArray, List.set_cons_zero, List.set_cons_succ]
      refine anyN_takeL (i := 3) (v := ?vc3) rfl (by kernel_rfl) (by kernel_rfl) (by kernel_rfl) (Nat.le_refl 12) (by kernel_rfl) (fun _ _ _ h => h) (Or.inl ⟨by rfl, fun wS hSw => ?hyc3⟩) hS ?rec3
      case hyc3 => (dsimp only at hSw; obtain hS1 := hSw; go_simp; try with_reducible rfl)
      try simp only [Act.put, List.setIfInBounds_toArray, List.set_cons_zero, List.set_cons_succ]
      refine anyN_takeL (i := 4) (v := ?vc4) rfl (by kernel_rfl) (by kernel_rfl) (by kernel_rfl) (Nat.le_refl 12) (by kernel_rfl) (fun _ _ _ h => h) (Or.inl ⟨by rfl, fun wS hSw => ?hyc4⟩) hS ?rec4
      case hyc4 => (dsimp only at hSw; obtain hS1 := hSw; go_simp; try with_reducible rfl)
      try simp only [Act.put, List.setIfInBounds_toArray, List.set_cons_zero, List.set_cons_succ]
      refine anyT_oneL (i := 2) rfl (by kernel_rfl) ?_
      intro K hK
      go_simp
      refine (members17 o1 (2 * k + 1) b1 _ _ (show LogAt o1 (2 * k + 1) w1.drew b1 (W.node k).log from HL1.out) HG.out.1.ok.log).mono ?_
      rintro e w4 ⟨A4, n4, c4, rfl, hI4, hb4⟩
      have hb4' : Below w1.heap.size w1 w4 := ⟨hb4.os, hb4.tape, hb4.output, hb4.size, hb4.block⟩
      have HI4 := Lib.hid hI4
      have HB4 := Lib.hid hb4'
      have ky : ∀ i, w4.cell? ⟨w.heap.size, i, none⟩ = [Value.int .i64 3, .int .i64 d1, .int .i64 d2][i]? := fun i => (hb4'.cell (p := ⟨w.heap.size, i, none⟩) hlx).trans (kx i)
      clear hI4 hb4 hb4'
      try dsimp only
      clear hS
      have hS : (fun w' : World => (∀ i, w'.cell? ⟨w.heap.size, i, none⟩ = [Value.int .i64 3, .int .i64 d1, .int .i64 d2][i]?)) w4 := ky
      refine hK _ _ (.inr hS) ?_
      clear hK K
      try simp only [Act.put, List.setIfInBounds_toArray, List.set_cons_zero, List.set_cons_succ]
      refine anyT_oneL (i := 5) rfl (by kernel_rfl) ?_
      intro K hK
      go_simp
      refine (changed16 A4 n4 c4 _ d2 _ _ HI4.out (by have := HG.out.1.ok.mlen; omega)).mono ?_
      rintro e w5 ⟨v5, rfl, hM5⟩
      obtain ⟨o5, l5, hr5, he5, hl5⟩ := hM5
      obtain ⟨A5, c5, rfl, _⟩ := hr5.form
      have HI5 := Lib.hid (hr5.slice)
      have HB5 := Lib.hid (HB4.out.trans ((he5.zero_below (by simp)).mono HB4.out.size))
      have kz : ∀ i, w5.cell? ⟨w.heap.size, i, none⟩ = [Value.int .i64 3, .int .i64 d1, .int .i64 d2][i]? := fun i => (HB5.out.cell (p := ⟨w.heap.size, i, none⟩) hlx).trans (kx i)
      clear hr5 he5
      try dsimp only
      clear hS
      have hS : (fun w' : World => (∀ i, w'.cell? ⟨w.heap.size, i, none⟩ = [Value.int .i64 3, .int .i64 d1, .int .i64 d2][i]?)) w5 := kz
      refine hK _ _ (.inr hS) ?_
      clear hK K
      try simp only [Act.put, List.setIfInBounds_toArray, List.set_cons_zero, List.set_cons_succ]
      refine anyT_oneL (i := 6) rfl (by kernel_rfl) ?_
      intro K hK
      go_simp
      refine (change15 o1 (2 * k) (2 * k + 1) (p k) (W.node k) l5 A5 _ c5 _ _ (((HC.out.1.ext HE1.out).below HWF1.out HB5.out).nodes k hk1 (by omega)) HG.out.1 HI5.out (by omega) HG.out.2 ((Ext.of_below (S := []) HB5.out HWF1.out).wf HWF1.out) (by omega) (by omega) (by omega)).mono ?_
      rintro e w6 ⟨v6, rfl, hO6⟩
      have HQ := Lib.hid (PlayMid.of HC.out.1 HC.out.2.1 (HE1.out.trans (Ext.of_below HB5.out HWF1.out)) hk1 hk5 (.change l5) hO6)
      have kv : ∀ i, w6.cell? ⟨w.heap.size, i, none⟩ = [Value.int .i64 3, .int .i64 d1, .int .i64 d2][i]? := fun i => by
        obtain ⟨o6, _, _, _, _, _, hE6⟩ := hO6
        exact (hE6.cell (p := ⟨w.heap.size, i, none⟩) (Nat.lt_of_lt_of_le hlx HB5.out.size) (by rw [HOX.out]; simp; omega)).trans (kz i)
      clear hO6
      try dsimp only
      clear hS
      have hS : (fun w' : World => (∀ i, w'.cell? ⟨w.heap.size, i, none⟩ = [Value.int .i64 3, .int .i64 d1, .int .i64 d2][i]?)) w6 := kv
      refine hK _ _ (.inr hS) ?_
      clear hK K
      try simp only [Act.put, List.setIfInBounds_toArray, List.set_cons_zero, List.set_cons_succ]
      refine anyN_takeL (i := 7) (v := ?vc7) rfl (by kernel_rfl) (by kernel_rfl) (by kernel_rfl) (Nat.le_refl 12) (by kernel_rfl) (fun _ _ _ h => h) (Or.inl ⟨by rfl, fun wS hSw => ?hyc7⟩) hS ?rec7
      case hyc7 => (dsimp only at hSw; obtain hS1 := hSw; go_simp; try with_reducible rfl)
      try simp only [Act.put, List.setIfInBounds_toArray, List.set_cons_zero, List.set_cons_succ]
      refine anyN_takeL (i := 8) (v := ?vc8) rfl (by kernel_rfl) (by kernel_rfl) (by kernel_rfl) (Nat.le_refl 12) (by kernel_rfl) (fun _ _ _ h => h) (Or.inl ⟨by rfl, fun wS hSw => ?hyc8⟩) hS ?rec8
      case hyc8 => (dsimp only at hSw; obtain hS1 := hSw; go_simp; try with_reducible rfl)
      try simp only [Act.put, List.setIfInBounds_toArray, List.set_cons_zero, List.set_cons_succ]
      refine anyN_takeL (i := 9) (v := ?vc9) rfl (by kernel_rfl) (by kernel_rfl) (by kernel_rfl) (Nat.le_refl 12) (by kernel_rfl) (fun _ _ _ h => h) (Or.inl ⟨by rfl, fun wS hSw => ?hyc9⟩) hS ?rec9
      case hyc9 => (dsimp only at hSw; obtain hS1 := hSw; go_simp; try with_reducible rfl)
      try simp only [Act.put, List.setIfInBounds_toArray, List.set_cons_zero, List.set_cons_succ]
      refine anyN_takeL (i := 10) (v := ?vc10) rfl (by kernel_rfl) (by kernel_rfl) (by kernel_rfl) (Nat.le_refl 12) (by kernel_rfl) (fun _ _ _ h => h) (Or.inl ⟨by rfl, fun wS hSw => ?hyc10⟩) hS ?rec10
      case hyc10 => (dsimp only at hSw; obtain hS1 := hSw; go_simp; try with_reducible rfl)
      try simp only [Act.put, List.setIfInBounds_toArray, List.set_cons_zero, List.set_cons_succ]
      refine anyN_takeL (i := 11) (v := ?vc11) rfl (by kernel_rfl) (by kernel_rfl) (by kernel_rfl) (Nat.le_refl 12) (by kernel_rfl) (fun _ _ _ h => h) (Or.inl ⟨by rfl, fun wS hSw => ?hyc11⟩) hS ?rec11
      case hyc11 => (dsimp only at hSw; obtain hS1 := hSw; go_simp; try with_reducible rfl)
      try simp only [Act.put, List.setIfInBounds_toArray, List.set_cons_zero, List.set_cons_succ]
      refine anyT_done (by kernel_rfl) ?_ _
      try clear hS
      -- END
      go_wp2
      go_meet
      exact HQ
    case rest =>
      obtain ⟨k', r', o', p', vs', vc', vl', B', h1, h5, rfl, hN, hE, hin, hx⟩ := hcut.out
      have HE := Lib.hid (And.intro hN hE)
      have HS := Lib.hid (sent_step hin hx (HR.out.len k' r' (by omega) (by omega) hN))
      have kw := hin.blk.cells
      have kw6 : wc.cell? ⟨wb, 6, none⟩ = some vs' := by rw [hin.blk.cells]; rfl
      have hlw2 := hin.blk.lt
      clear hcut hN hE hin hx kd kn hld hlw kw
      go_wp2_with (at_builtin; refine wpList_append_ex rfl (.tmp 155) (.tmp 156) 39 rfl _ _ _ rfl rfl HS.out ?_; rintro v' w' ⟨⟨A9, k9, c9, rfl⟩, hl2, f2, q2, HQ⟩)
      go_ret
      obtain ⟨o3, hW3, hE3⟩ := HQ.out
      exact ⟨k', o3, rfl, HE.out.2.trans (hE3.mono (by simp [Owners])), .inr ⟨h1, h5, r', HE.out.1, hW3.at_⟩⟩
end Go.Proofs.Ytibkmhacpodceaa
