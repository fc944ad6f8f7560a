/- Walks: Step. -/
import Derived.Test.YtibkmhacpodceaaW37
import Derived.Test.YtibkmhacpodceaaW32
namespace Go.Proofs.Ytibkmhacpodceaa
open Go.RowKit

/-- what a message's term makes of the node -/
def RaftM.risen (r : RaftM) (t : Int) : RaftM := if r.term < t then r.follow t else r
theorem RaftM.Fits.risen {r : RaftM} (h : r.Fits) {t : Int} (h0 : 0 ≤ t) (h1 : t ≤ 10000) : (r.risen t).Fits := by
  unfold RaftM.risen RaftM.follow
  split
  · obtain ⟨⟨a1, a2, a3, a4, a5, a6, a7, a8, a9, a10, a11, a12, a13, a14⟩, c1, c2, c3, c4⟩ := h
    exact ⟨⟨a1, a2, a3, h0, by simp; omega, a6, a7, a8, a9, a10, a11, a12, a13, a14⟩, h1, c2, c3, c4⟩
  · exact h
theorem RaftM.Fits.voted {r : RaftM} (h : r.Fits) (vs : List Bool) : RaftM.Fits { r with votes := vs } := by
  obtain ⟨⟨a1, a2, a3, a4, a5, a6, a7, a8, a9, a10, a11, a12, a13, a14⟩, c1, c2, c3, c4⟩ := h
  exact ⟨⟨a1, a2, a3, a4, a5, a6, a7, a8, a9, a10, a11, a12, a13, a14⟩, c1, c2, c3, c4⟩
theorem RaftM.risen_match {r : RaftM} {t p : Int} : (r.risen t).match_ p = r.match_ p := by
  unfold RaftM.risen RaftM.follow
  split <;> rfl
theorem RaftM.risen_stepM {r : RaftM} {m : Msg} : r.stepM m = (r.risen m.term).stepped m := rfl

def StepIs (o : Own) (kr kl : Nat) (b : Nat) (r : RaftM) (m : Msg) (w : World) (e : Ending) (w' : World) : Prop :=
  ∃ r' v er, (r' = r ∨ r' = r.stepM m) ∧ e = .returned (.tuple #[v, .int .i64 er]) ∧ OutIs o kr kl b r' w v w'

set_option maxRecDepth 100000 in
set_option maxHeartbeats 8000000 in
theorem step12 (o : Own) (kr kl : Nat) (b : Nat) (r : RaftM) (m : Msg) (A n c A2 n2 c2 A3 n3 c3) (w : World) (h : RaftAt o kr kl w b r) (hf : r.Fits) (hS : m.Small) (ht1 : m.term ≤ 10000) (hmt : r.match_ m.from_ ≤ 50000) (hf0 : 1 ≤ m.from_) (hf1 : m.from_ ≤ 5) (hout : r.out = [])
    (hE : EntsAt (Of o 0) (Of o 0) w (.slice A n c) m.entries) (hI : IntsAt (Of o 0) w (.slice A2 n2 c2) m.members) (hD : BytesAt (Of o 0) w (.slice A3 n3 c3) m.data) (hw : Wf o w) (hk : kr ≠ 0) (hkl : kr ≠ kl) (hl0 : kl ≠ 0) :
    Calls Try.prog 12 #[.pointer (some ⟨b, 0, none⟩), .agg #[.int .i64 m.kind, .int .i64 m.group, .int .i64 m.from_, .int .i64 m.to_, .int .i64 m.term, .int .i64 m.index, .int .i64 m.logTerm, .int .i64 m.commit, .bool m.ok, .slice A n c, .slice A2 n2 c2, .slice A3 n3 c3]] w
      (StepIs o kr kl b r m w) := by
  have H := Lib.hid h
  have HF := Lib.hid hf
  have HS := Lib.hid hS
  have HE := Lib.hid hE
  have HI := Lib.hid hI
  have HD := Lib.hid hD
  have HOUT := Lib.hid hout
  have HM := Lib.hid hmt
  clear h hf hS hE hI hD hout hmt
  have hbA : Below w.heap.size w (w.alloc (.cells (msgCells m (.slice A n c) (.slice A2 n2 c2) (.slice A3 n3 c3)).toArray 48)) := (Below.refl _ _).alloc (Nat.le_refl _) _
  have HBA := Lib.hid hbA
  have HB0 := Lib.hid (Blk.new w 48 (msgCells m (.slice A n c) (.slice A2 n2 c2) (.slice A3 n3 c3)))
  have HPO : Hid (o w.heap.size = 0) := hw _ (Nat.le_refl _)
  clear hbA
  go_enter Try.func12, Try.ntmps12
  go_wp2_with fail
  refine (encode37 m A n c A2 n2 c2 A3 n3 c3 _ _ _ _ _ HS.out (EntsAt.stays HE.out (Stays.of_below HBA.out) (Stays.of_below HBA.out)) (IntsAt.stays HI.out (Stays.of_below HBA.out)) (BytesAt.stays HD.out (Stays.of_below HBA.out))).mono ?_
  rintro e w1 ⟨⟨ev, er, rfl⟩, hb1⟩
  have HB01 := Lib.hid (HBA.out.trans (hb1.mono (by simp)))
  have HR1 := Lib.hid (H.out.below HB01.out hw)
  have HB1 := Lib.hid (HB0.out.same (hb1.block w.heap.size (by simp)))
  have HW1 : Hid (Wf o w1) := fun b hb => hw b (Nat.le_trans HB01.out.size hb)
  have HE1 : Hid (Ext [kr] o o w w1) := Ext.of_below HB01.out hw
  clear hb1
  obtain ⟨_, _, _, _, _, _, _, ⟨q0, q1, q2, _, _, _, _, _, _, _, _, hltw⟩, _⟩ := HR1.out.open_
  have km := HB1.out.cells
  unfold msgCells at km
  have hml := HB1.out.lt
  clear HBA HB0
  go_upto_region 2 with (fail)
  go_cut [32] (fun s wx => s = .bool (er != 0 || (m.group != r.group || m.to_ != r.id)) ∧ wx = w1.drew)
  case first =>
    cases hq0 : (er != 0)
    · cases hq1 : (m.group != r.group)
      · skip
        -- BLOCK ga
        have hS : (fun w' : World => (∀ i, w'.cell? ⟨w.heap.size, i, none⟩ = [Value.int .i64 m.kind, .int .i64 m.group, .int .i64 m.from_, .int .i64 m.to_, .int .i64 m.term, .int .i64 m.index, .int .i64 m.logTerm, .int .i64 m.commit, .bool m.ok, .slice A n c, .slice A2 n2 c2, .slice A3 n3 c3][i]?) ∧ w'.cell? ⟨b, 0, none⟩ = some (.int .i64 r.group) ∧ w'.cell? ⟨b, 1, none⟩ = some (.int .i64 r.id)) w1.drew := ⟨km, q0, q1⟩
        refine wp_region_T 19 (fun w' : World => (∀ i, w'.cell? ⟨w.heap.size, i, none⟩ = [Value.int .i64 m.kind, .int .i64 m.group, .int .i64 m.from_, .int .i64 m.to_, .int .i64 m.term, .int .i64 m.index, .int .i64 m.logTerm, .int .i64 m.commit, .bool m.ok, .slice A n c, .slice A2 n2 c2, .slice A3 n3 c3][i]?) ∧ w'.cell? ⟨b, 0, none⟩ = some (.int .i64 r.group) ∧ w'.cell? ⟨b, 1, none⟩ = some (.int .i64 r.id)) (by kernel_rfl) ?_
        refine anyT_takeL (i := 0) (v := ?va0) rfl (by kernel_rfl) (by kernel_rfl) (by kernel_rfl) (by kernel_rfl) (by kernel_rfl) (fun _ _ _ h => h) (Or.inl ⟨by rfl, fun wS hSw => ?hya0⟩) hS ?rea0
        case hya0 => (dsimp only at hSw; obtain ⟨hS1, hS2, hS3⟩ := hSw; go_simp; try with_reducible rfl)
        try simp only [Act.put, List.setIfInBounds_toArray, List.set_cons_zero, List.set_cons_succ]
        refine anyT_takeL (i := 1) (v := ?va1) rfl (by kernel_rfl) (by kernel_rfl) (by kernel_rfl) (by kernel_rfl) (by kernel_rfl) (fun _ _ _ h => h) (Or.inl ⟨by rfl, fun wS hSw => ?hya1⟩) hS ?rea1
        case hya1 => (dsimp only at hSw; obtain ⟨hS1, hS2, hS3⟩ := hSw; go_simp; try with_reducible rfl)
        try simp only [Act.put, List.setIfInBounds_toArray, List.set_cons_zero, List.set_cons_succ]
        refine anyT_takeL (i := 2) (v := ?va2) rfl (by kernel_rfl) (by kernel_rfl) (by kernel_rfl) (by kernel_rfl) (by kernel_rfl) (fun _ _ _ h => h) (Or.inl ⟨by rfl, fun wS hSw => ?hya2⟩) hS ?rea2
        case hya2 => (dsimp only at hSw; obtain ⟨hS1, hS2, hS3⟩ := hSw; go_simp; try with_reducible rfl)
        try simp only [Act.put, List.setIfInBounds_toArray, List.set_cons_zero, List.set_cons_succ]
        refine anyT_takeL (i := 3) (v := ?va3) rfl (by kernel_rfl) (by kernel_rfl) (by kernel_rfl) (by kernel_rfl) (by kernel_rfl) (fun _ _ _ h => h) (Or.inl ⟨by rfl, fun wS hSw => ?hya3⟩) hS ?rea3
        case hya3 => (dsimp only at hSw; obtain ⟨hS1, hS2, hS3⟩ := hSw; go_simp; try with_reducible rfl)
        try simp only [Act.put, List.setIfInBounds_toArray, List.set_cons_zero, List.set_cons_succ]
        refine anyT_takeL (i := 4) (v := ?va4) rfl (by kernel_rfl) (by kernel_rfl) (by kernel_rfl) (by kernel_rfl) (by kernel_rfl) (fun _ _ _ h => h) (Or.inl ⟨by rfl, fun wS hSw => ?hya4⟩) hS ?rea4
        case hya4 => (dsimp only at hSw; obtain ⟨hS1, hS2, hS3⟩ := hSw; go_simp; try with_reducible rfl)
        try simp only [Act.put, List.setIfInBounds_toArray, List.set_cons_zero, List.set_cons_succ]
        refine anyT_takeL (i := 5) (v := ?va5) rfl (by kernel_rfl) (by kernel_rfl) (by kernel_rfl) (by kernel_rfl) (by kernel_rfl) (fun _ _ _ h => h) (Or.inl ⟨by rfl, fun wS hSw => ?hya5⟩) hS ?rea5
        case hya5 => (dsimp only at hSw; obtain ⟨hS1, hS2, hS3⟩ := hSw; go_simp; try with_reducible rfl)
        try simp only [Act.put, List.setIfInBounds_toArray, List.set_cons_zero, List.set_cons_succ]
        refine anyT_takeL (i := 6) (v := ?va6) rfl (by kernel_rfl) (by kernel_rfl) (by kernel_rfl) (by kernel_rfl) (by kernel_rfl) (fun _ _ _ h => h) (Or.inl ⟨by rfl, fun wS hSw => ?hya6⟩) hS ?rea6
        case hya6 => (dsimp only at hSw; obtain ⟨hS1, hS2, hS3⟩ := hSw; go_simp; try with_reducible rfl)
        try simp only [Act.put, List.setIfInBounds_toArray, List.set_cons_zero, List.set_cons_succ]
        refine anyT_takeL (i := 7) (v := ?va7) rfl (by kernel_rfl) (by kernel_rfl) (by kernel_rfl) (by kernel_rfl) (by kernel_rfl) (fun _ _ _ h => h) (Or.inl ⟨by rfl, fun wS hSw => ?hya7⟩) hS ?rea7
        case hya7 => (dsimp only at hSw; obtain ⟨hS1, hS2, hS3⟩ := hSw; go_simp; try with_reducible rfl)
        try simp only [Act.put, List.setIfInBounds_toArray, List.set_cons_zero, List.set_cons_succ]
        refine anyT_takeL (i := 8) (v := ?va8) rfl (by kernel_rfl) (by kernel_rfl) (by kernel_rfl) (by kernel_rfl) (by kernel_rfl) (fun _ _ _ h => h) (Or.inl ⟨by rfl, fun wS hSw => ?hya8⟩) hS ?rea8
        case hya8 => (dsimp only at hSw; obtain ⟨hS1, hS2, hS3⟩ := hSw; go_simp; try with_reducible rfl)
        try simp only [Act.put, List.setIfInBounds_toArray, List.set_cons_zero, List.set_cons_succ]
        refine anyT_takeL (i := 9) (v := ?va9) rfl (by kernel_rfl) (by kernel_rfl) (by kernel_rfl) (by kernel_rfl) (by kernel_rfl) (fun _ _ _ h => h) (Or.inl ⟨by rfl, fun wS hSw => ?hya9⟩) hS ?rea9
        case hya9 => (dsimp only at hSw; obtain ⟨hS1, hS2, hS3⟩ := hSw; go_simp; try with_reducible rfl)
        try simp only [Act.put, List.setIfInBounds_toArray, List.set_cons_zero, List.set_cons_succ]
        refine anyT_takeL (i := 10) (v := ?va10) rfl (by kernel_rfl) (by kernel_rfl) (by kernel_rfl) (by kernel_rfl) (by kernel_rfl) (fun _ _ _ h => h) (Or.inl ⟨by rfl, fun wS hSw => ?hya10⟩) hS ?rea10
        case hya10 => (dsimp only at hSw; obtain ⟨hS1, hS2, hS3⟩ := hSw; go_simp; try with_reducible rfl)
        try simp only [Act.put, List.setIfInBounds_toArray, List.set_cons_zero, List.set_cons_succ]
        refine anyT_takeL (i := 11) (v := ?va11) rfl (by kernel_rfl) (by kernel_rfl) (by kernel_rfl) (by kernel_rfl) (by kernel_rfl) (fun _ _ _ h => h) (Or.inl ⟨by rfl, fun wS hSw => ?hya11⟩) hS ?rea11
        case hya11 => (dsimp only at hSw; obtain ⟨hS1, hS2, hS3⟩ := hSw; go_simp; try with_reducible rfl)
        try simp only [Act.put, List.setIfInBounds_toArray, List.set_cons_zero, List.set_cons_succ]
        refine anyT_takeL (i := 12) (v := ?va12) rfl (by kernel_rfl) (by kernel_rfl) (by kernel_rfl) (by kernel_rfl) (by kernel_rfl) (fun _ _ _ h => h) (Or.inl ⟨by rfl, fun wS hSw => ?hya12⟩) hS ?rea12
        case hya12 => (dsimp only at hSw; obtain ⟨hS1, hS2, hS3⟩ := hSw; go_simp; try with_reducible rfl)
        try simp only [Act.put, List.setIfInBounds_toArray, List.set_cons_zero, List.set_cons_succ]
        refine anyT_takeL (i := 13) (v := ?va13) rfl (by kernel_rfl) (by kernel_rfl) (by kernel_rfl) (by kernel_rfl) (by kernel_rfl) (fun _ _ _ h => h) (Or.inl ⟨by rfl, fun wS hSw => ?hya13⟩) hS ?rea13
        case hya13 => (dsimp only at hSw; obtain ⟨hS1, hS2, hS3⟩ := hSw; go_simp; try with_reducible rfl)
        try simp only [Act.put, List.setIfInBounds_toArray, List.set_cons_zero, List.set_cons_succ]
        refine anyT_takeL (i := 14) (v := ?va14) rfl (by kernel_rfl) (by kernel_rfl) (by kernel_rfl) (by kernel_rfl) (by kernel_rfl) (fun _ _ _ h => h) (Or.inl ⟨by rfl, fun wS hSw => ?hya14⟩) hS ?rea14
        case hya14 => (dsimp only at hSw; obtain ⟨hS1, hS2, hS3⟩ := hSw; go_simp; try with_reducible rfl)
        try simp only [Act.put, List.setIfInBounds_toArray, List.set_cons_zero, List.set_cons_succ]
        refine anyT_takeL (i := 15) (v := ?va15) rfl (by kernel_rfl) (by kernel_rfl) (by kernel_rfl) (by kernel_rfl) (by kernel_rfl) (fun _ _ _ h => h) (Or.inl ⟨by rfl, fun wS hSw => ?hya15⟩) hS ?rea15
        case hya15 => (dsimp only at hSw; obtain ⟨hS1, hS2, hS3⟩ := hSw; go_simp; try with_reducible rfl)
        try simp only [Act.put, List.setIfInBounds_toArray, List.set_cons_zero, List.set_cons_succ]
        refine anyT_takeL (i := 16) (v := ?va16) rfl (by kernel_rfl) (by kernel_rfl) (by kernel_rfl) (by kernel_rfl) (by kernel_rfl) (fun _ _ _ h => h) (Or.inl ⟨by rfl, fun wS hSw => ?hya16⟩) hS ?rea16
        case hya16 => (dsimp only at hSw; obtain ⟨hS1, hS2, hS3⟩ := hSw; go_simp; try with_reducible rfl)
        try simp only [Act.put, List.setIfInBounds_toArray, List.set_cons_zero, List.set_cons_succ]
        refine anyT_takeL (i := 17) (v := ?va17) rfl (by kernel_rfl) (by kernel_rfl) (by kernel_rfl) (by kernel_rfl) (by kernel_rfl) (fun _ _ _ h => h) (Or.inl ⟨by rfl, fun wS hSw => ?hya17⟩) hS ?rea17
        case hya17 => (dsimp only at hSw; obtain ⟨hS1, hS2, hS3⟩ := hSw; go_simp; try with_reducible rfl)
        try simp only [Act.put, List.setIfInBounds_toArray, List.set_cons_zero, List.set_cons_succ]
        refine anyT_takeL (i := 18) (v := ?va18) rfl (by kernel_rfl) (by kernel_rfl) (by kernel_rfl) (by kernel_rfl) (by kernel_rfl) (fun _ _ _ h => h) (Or.inl ⟨by rfl, fun wS hSw => ?hya18⟩) hS ?rea18
        case hya18 => (dsimp only at hSw; obtain ⟨hS1, hS2, hS3⟩ := hSw; go_simp; try with_reducible rfl)
        try simp only [Act.put, List.setIfInBounds_toArray, List.set_cons_zero, List.set_cons_succ]
        refine anyT_oneL (i := 19) rfl (by kernel_rfl) ?_
        intro K hK
        go_simp
        try dsimp only
        refine hK _ _ (.inl rfl) ?_
        clear hK K hS
        try simp only [Act.put, List.setIfInBounds_toArray, List.set_cons_zero, List.set_cons_succ]
        refine anyT_done (by kernel_rfl) ?_ _
        try clear hS
        -- END
        go_wp2
        go_meet
        exact ⟨by rw [hq0, hq1]; rfl, rfl⟩
      · skip
        -- BLOCK gb
        have hS : (fun w' : World => (∀ i, w'.cell? ⟨w.heap.size, i, none⟩ = [Value.int .i64 m.kind, .int .i64 m.group, .int .i64 m.from_, .int .i64 m.to_, .int .i64 m.term, .int .i64 m.index, .int .i64 m.logTerm, .int .i64 m.commit, .bool m.ok, .slice A n c, .slice A2 n2 c2, .slice A3 n3 c3][i]?) ∧ w'.cell? ⟨b, 0, none⟩ = some (.int .i64 r.group) ∧ w'.cell? ⟨b, 1, none⟩ = some (.int .i64 r.id)) w1.drew := ⟨km, q0, q1⟩
        refine wp_region_T 19 (fun w' : World => (∀ i, w'.cell? ⟨w.heap.size, i, none⟩ = [Value.int .i64 m.kind, .int .i64 m.group, .int .i64 m.from_, .int .i64 m.to_, .int .i64 m.term, .int .i64 m.index, .int .i64 m.logTerm, .int .i64 m.commit, .bool m.ok, .slice A n c, .slice A2 n2 c2, .slice A3 n3 c3][i]?) ∧ w'.cell? ⟨b, 0, none⟩ = some (.int .i64 r.group) ∧ w'.cell? ⟨b, 1, none⟩ = some (.int .i64 r.id)) (by kernel_rfl) ?_
        refine anyT_takeL (i := 0) (v := ?vb0) rfl (by kernel_rfl) (by kernel_rfl) (by kernel_rfl) (by kernel_rfl) (by kernel_rfl) (fun _ _ _ h => h) (Or.inl ⟨by rfl, fun wS hSw => ?hyb0⟩) hS ?reb0
        case hyb0 => (dsimp only at hSw; obtain ⟨hS1, hS2, hS3⟩ := hSw; go_simp; try with_reducible rfl)
        try simp only [Act.put, List.setIfInBounds_toArray, List.set_cons_zero, List.set_cons_succ]
        refine anyT_takeL (i := 1) (v := ?vb1) rfl (by kernel_rfl) (by kernel_rfl) (by kernel_rfl) (by kernel_rfl) (by kernel_rfl) (fun _ _ _ h => h) (Or.inl ⟨by rfl, fun wS hSw => ?hyb1⟩) hS ?reb1
        case hyb1 => (dsimp only at hSw; obtain ⟨hS1, hS2, hS3⟩ := hSw; go_simp; try with_reducible rfl)
        try simp only [Act.put, List.setIfInBounds_toArray, List.set_cons_zero, List.set_cons_succ]
        refine anyT_takeL (i := 2) (v := ?vb2) rfl (by kernel_rfl) (by kernel_rfl) (by kernel_rfl) (by kernel_rfl) (by kernel_rfl) (fun _ _ _ h => h) (Or.inl ⟨by rfl, fun wS hSw => ?hyb2⟩) hS ?reb2
        case hyb2 => (dsimp only at hSw; obtain ⟨hS1, hS2, hS3⟩ := hSw; go_simp; try with_reducible rfl)
        try simp only [Act.put, List.setIfInBounds_toArray, List.set_cons_zero, List.set_cons_succ]
        refine anyT_takeL (i := 3) (v := ?vb3) rfl (by kernel_rfl) (by kernel_rfl) (by kernel_rfl) (by kernel_rfl) (by kernel_rfl) (fun _ _ _ h => h) (Or.inl ⟨by rfl, fun wS hSw => ?hyb3⟩) hS ?reb3
        case hyb3 => (dsimp only at hSw; obtain ⟨hS1, hS2, hS3⟩ := hSw; go_simp; try with_reducible rfl)
        try simp only [Act.put, List.setIfInBounds_toArray, List.set_cons_zero, List.set_cons_succ]
        refine anyT_takeL (i := 4) (v := ?vb4) rfl (by kernel_rfl) (by kernel_rfl) (by kernel_rfl) (by kernel_rfl) (by kernel_rfl) (fun _ _ _ h => h) (Or.inl ⟨by rfl, fun wS hSw => ?hyb4⟩) hS ?reb4
        case hyb4 => (dsimp only at hSw; obtain ⟨hS1, hS2, hS3⟩ := hSw; go_simp; try with_reducible rfl)
        try simp only [Act.put, List.setIfInBounds_toArray, List.set_cons_zero, List.set_cons_succ]
        refine anyT_takeL (i := 5) (v := ?vb5) rfl (by kernel_rfl) (by kernel_rfl) (by kernel_rfl) (by kernel_rfl) (by kernel_rfl) (fun _ _ _ h => h) (Or.inl ⟨by rfl, fun wS hSw => ?hyb5⟩) hS ?reb5
        case hyb5 => (dsimp only at hSw; obtain ⟨hS1, hS2, hS3⟩ := hSw; go_simp; try with_reducible rfl)
        try simp only [Act.put, List.setIfInBounds_toArray, List.set_cons_zero, List.set_cons_succ]
        refine anyT_takeL (i := 6) (v := ?vb6) rfl (by kernel_rfl) (by kernel_rfl) (by kernel_rfl) (by kernel_rfl) (by kernel_rfl) (fun _ _ _ h => h) (Or.inl ⟨by rfl, fun wS hSw => ?hyb6⟩) hS ?reb6
        case hyb6 => (dsimp only at hSw; obtain ⟨hS1, hS2, hS3⟩ := hSw; go_simp; try with_reducible rfl)
        try simp only [Act.put, List.setIfInBounds_toArray, List.set_cons_zero, List.set_cons_succ]
        refine anyT_takeL (i := 7) (v := ?vb7) rfl (by kernel_rfl) (by kernel_rfl) (by kernel_rfl) (by kernel_rfl) (by kernel_rfl) (fun _ _ _ h => h) (Or.inl ⟨by rfl, fun wS hSw => ?hyb7⟩) hS ?reb7
        case hyb7 => (dsimp only at hSw; obtain ⟨hS1, hS2, hS3⟩ := hSw; go_simp; try with_reducible rfl)
        try simp only [Act.put, List.setIfInBounds_toArray, List.set_cons_zero, List.set_cons_succ]
        refine anyT_takeL (i := 8) (v := ?vb8) rfl (by kernel_rfl) (by kernel_rfl) (by kernel_rfl) (by kernel_rfl) (by kernel_rfl) (fun _ _ _ h => h) (Or.inl ⟨by rfl, fun wS hSw => ?hyb8⟩) hS ?reb8
        case hyb8 => (dsimp only at hSw; obtain ⟨hS1, hS2, hS3⟩ := hSw; go_simp; try with_reducible rfl)
        try simp only [Act.put, List.setIfInBounds_toArray, List.set_cons_zero, List.set_cons_succ]
        refine anyT_takeL (i := 9) (v := ?vb9) rfl (by kernel_rfl) (by kernel_rfl) (by kernel_rfl) (by kernel_rfl) (by kernel_rfl) (fun _ _ _ h => h) (Or.inl ⟨by rfl, fun wS hSw => ?hyb9⟩) hS ?reb9
        case hyb9 => (dsimp only at hSw; obtain ⟨hS1, hS2, hS3⟩ := hSw; go_simp; try with_reducible rfl)
        try simp only [Act.put, List.setIfInBounds_toArray, List.set_cons_zero, List.set_cons_succ]
        refine anyT_takeL (i := 10) (v := ?vb10) rfl (by kernel_rfl) (by kernel_rfl) (by kernel_rfl) (by kernel_rfl) (by kernel_rfl) (fun _ _ _ h => h) (Or.inl ⟨by rfl, fun wS hSw => ?hyb10⟩) hS ?reb10
        case hyb10 => (dsimp only at hSw; obtain ⟨hS1, hS2, hS3⟩ := hSw; go_simp; try with_reducible rfl)
        try simp only [Act.put, List.setIfInBounds_toArray, List.set_cons_zero, List.set_cons_succ]
        refine anyT_takeL (i := 11) (v := ?vb11) rfl (by kernel_rfl) (by kernel_rfl) (by kernel_rfl) (by kernel_rfl) (by kernel_rfl) (fun _ _ _ h => h) (Or.inl ⟨by rfl, fun wS hSw => ?hyb11⟩) hS ?reb11
        case hyb11 => (dsimp only at hSw; obtain ⟨hS1, hS2, hS3⟩ := hSw; go_simp; try with_reducible rfl)
        try simp only [Act.put, List.setIfInBounds_toArray, List.set_cons_zero, List.set_cons_succ]
        refine anyT_takeL (i := 12) (v := undef) rfl (by kernel_rfl) (by kernel_rfl) (by kernel_rfl) (by kernel_rfl) (by kernel_rfl) (fun _ _ _ h => h) (Or.inr ⟨by rfl, rfl⟩) hS ?reb12
        try simp only [Act.put, List.setIfInBounds_toArray, List.set_cons_zero, List.set_cons_succ]
        refine anyT_takeL (i := 13) (v := undef) rfl (by kernel_rfl) (by kernel_rfl) (by kernel_rfl) (by kernel_rfl) (by kernel_rfl) (fun _ _ _ h => h) (Or.inr ⟨by rfl, rfl⟩) hS ?reb13
        try simp only [Act.put, List.setIfInBounds_toArray, List.set_cons_zero, List.set_cons_succ]
        refine anyT_takeL (i := 14) (v := undef) rfl (by kernel_rfl) (by kernel_rfl) (by kernel_rfl) (by kernel_rfl) (by kernel_rfl) (fun _ _ _ h => h) (Or.inr ⟨by rfl, rfl⟩) hS ?reb14
        try simp only [Act.put, List.setIfInBounds_toArray, List.set_cons_zero, List.set_cons_succ]
        refine anyT_takeL (i := 15) (v := undef) rfl (by kernel_rfl) (by kernel_rfl) (by kernel_rfl) (by kernel_rfl) (by kernel_rfl) (fun _ _ _ h => h) (Or.inr ⟨by rfl, rfl⟩) hS ?reb15
        try simp only [Act.put, List.setIfInBounds_toArray, List.set_cons_zero, List.set_cons_succ]
        refine anyT_takeL (i := 16) (v := undef) rfl (by kernel_rfl) (by kernel_rfl) (by kernel_rfl) (by kernel_rfl) (by kernel_rfl) (fun _ _ _ h => h) (Or.inr ⟨by rfl, rfl⟩) hS ?reb16
        try simp only [Act.put, List.setIfInBounds_toArray, List.set_cons_zero, List.set_cons_succ]
        refine anyT_takeL (i := 17) (v := undef) rfl (by kernel_rfl) (by kernel_rfl) (by kernel_rfl) (by kernel_rfl) (by kernel_rfl) (fun _ _ _ h => h) (Or.inr ⟨by rfl, rfl⟩) hS ?reb17
        try simp only [Act.put, List.setIfInBounds_toArray, List.set_cons_zero, List.set_cons_succ]
        refine anyT_takeL (i := 18) (v := undef) rfl (by kernel_rfl) (by kernel_rfl) (by kernel_rfl) (by kernel_rfl) (by kernel_rfl) (fun _ _ _ h => h) (Or.inr ⟨by rfl, rfl⟩) hS ?reb18
        try simp only [Act.put, List.setIfInBounds_toArray, List.set_cons_zero, List.set_cons_succ]
        refine anyT_oneL (i := 19) rfl (by kernel_rfl) ?_
        intro K hK
        go_simp
        try dsimp only
        refine hK _ _ (.inl rfl) ?_
        clear hK K hS
        try simp only [Act.put, List.setIfInBounds_toArray, List.set_cons_zero, List.set_cons_succ]
        refine anyT_done (by kernel_rfl) ?_ _
        try clear hS
        -- END
        go_wp2
        go_meet
        exact ⟨by rw [hq0, hq1]; rfl, rfl⟩
    · skip
      -- BLOCK gc
      have hS : (fun w' : World => (∀ i, w'.cell? ⟨w.heap.size, i, none⟩ = [Value.int .i64 m.kind, .int .i64 m.group, .int .i64 m.from_, .int .i64 m.to_, .int .i64 m.term, .int .i64 m.index, .int .i64 m.logTerm, .int .i64 m.commit, .bool m.ok, .slice A n c, .slice A2 n2 c2, .slice A3 n3 c3][i]?) ∧ w'.cell? ⟨b, 0, none⟩ = some (.int .i64 r.group) ∧ w'.cell? ⟨b, 1, none⟩ = some (.int .i64 r.id)) w1.drew := ⟨km, q0, q1⟩
      refine wp_region_T 19 (fun w' : World => (∀ i, w'.cell? ⟨w.heap.size, i, none⟩ = [Value.int .i64 m.kind, .int .i64 m.group, .int .i64 m.from_, .int .i64 m.to_, .int .i64 m.term, .int .i64 m.index, .int .i64 m.logTerm, .int .i64 m.commit, .bool m.ok, .slice A n c, .slice A2 n2 c2, .slice A3 n3 c3][i]?) ∧ w'.cell? ⟨b, 0, none⟩ = some (.int .i64 r.group) ∧ w'.cell? ⟨b, 1, none⟩ = some (.int .i64 r.id)) (by kernel_rfl) ?_
      refine anyT_takeL (i := 0) (v := ?vc0) rfl (by kernel_rfl) (by kernel_rfl) (by kernel_rfl) (by kernel_rfl) (by kernel_rfl) (fun _ _ _ h => h) (Or.inl ⟨by rfl, fun wS hSw => ?hyc0⟩) hS ?rec0
      case hyc0 => (dsimp only at hSw; obtain ⟨hS1, hS2, hS3⟩ := hSw; go_simp; try with_reducible rfl)
      try simp only [Act.put, List.setIfInBounds_toArray, List.set_cons_zero, List.set_cons_succ]
      refine anyT_takeL (i := 1) (v := ?vc1) rfl (by kernel_rfl) (by kernel_rfl) (by kernel_rfl) (by kernel_rfl) (by kernel_rfl) (fun _ _ _ h => h) (Or.inl ⟨by rfl, fun wS hSw => ?hyc1⟩) hS ?rec1
      case hyc1 => (dsimp only at hSw; obtain ⟨hS1, hS2, hS3⟩ := hSw; go_simp; try with_reducible rfl)
      try simp only [Act.put, List.setIfInBounds_toArray, List.set_cons_zero, List.set_cons_succ]
      refine anyT_takeL (i := 2) (v := ?vc2) rfl (by kernel_rfl) (by kernel_rfl) (by kernel_rfl) (by kernel_rfl) (by kernel_rfl) (fun _ _ _ h => h) (Or.inl ⟨by rfl, fun wS hSw => ?hyc2⟩) hS ?rec2
      case hyc2 => (dsimp only at hSw; obtain ⟨hS1, hS2, hS3⟩ := hSw; go_simp; try with_reducible rfl)
      try simp only [Act.put, List.setIfInBounds_toArray, List.set_cons_zero, List.set_cons_succ]
      refine anyT_takeL (i := 3) (v := undef) rfl (by kernel_rfl) (by kernel_rfl) (by kernel_rfl) (by kernel_rfl) (by kernel_rfl) (fun _ _ _ h => h) (Or.inr ⟨by rfl, rfl⟩) hS ?rec3
      try simp only [Act.put, List.setIfInBounds_toArray, List.set_cons_zero, List.set_cons_succ]
      refine anyT_takeL (i := 4) (v := undef) rfl (by kernel_rfl) (by kernel_rfl) (by kernel_rfl) (by kernel_rfl) (by kernel_rfl) (fun _ _ _ h => h) (Or.inr ⟨by rfl, rfl⟩) hS ?rec4
      try simp only [Act.put, List.setIfInBounds_toArray, List.set_cons_zero, List.set_cons_succ]
      refine anyT_takeL (i := 5) (v := undef) rfl (by kernel_rfl) (by kernel_rfl) (by kernel_rfl) (by kernel_rfl) (by kernel_rfl) (fun _ _ _ h => h) (Or.inr ⟨by rfl, rfl⟩) hS ?rec5
      try simp only [Act.put, List.setIfInBounds_toArray, List.set_cons_zero, List.set_cons_succ]
      refine anyT_takeL (i := 6) (v := undef) rfl (by kernel_rfl) (by kernel_rfl) (by kernel_rfl) (by kernel_rfl) (by kernel_rfl) (fun _ _ _ h => h) (Or.inr ⟨by rfl, rfl⟩) hS ?rec6
      try simp only [Act.put, List.setIfInBounds_toArray, List.set_cons_zero, List.set_cons_succ]
      refine anyT_takeL (i := 7) (v := undef) rfl (by kernel_rfl) (by kernel_rfl) (by kernel_rfl) (by kernel_rfl) (by kernel_rfl) (fun _ _ _ h => h) (Or.inr ⟨by rfl, rfl⟩) hS ?rec7
      try simp only [Act.put, List.setIfInBounds_toArray, List.set_cons_zero, List.set_cons_succ]
      refine anyT_takeL (i := 8) (v := undef) rfl (by kernel_rfl) (by kernel_rfl) (by kernel_rfl) (by kernel_rfl) (by kernel_rfl) (fun _ _ _ h => h) (Or.inr ⟨by rfl, rfl⟩) hS ?rec8
      try simp only [Act.put, List.setIfInBounds_toArray, List.set_cons_zero, List.set_cons_succ]
      refine anyT_takeL (i := 9) (v := undef) rfl (by kernel_rfl) (by kernel_rfl) (by kernel_rfl) (by kernel_rfl) (by kernel_rfl) (fun _ _ _ h => h) (Or.inr ⟨by rfl, rfl⟩) hS ?rec9
      try simp only [Act.put, List.setIfInBounds_toArray, List.set_cons_zero, List.set_cons_succ]
      refine anyT_takeL (i := 10) (v := ?vc10) rfl (by kernel_rfl) (by kernel_rfl) (by kernel_rfl) (by kernel_rfl) (by kernel_rfl) (fun _ _ _ h => h) (Or.inl ⟨by rfl, fun wS hSw => ?hyc10⟩) hS ?rec10
      case hyc10 => (dsimp only at hSw; obtain ⟨hS1, hS2, hS3⟩ := hSw; go_simp; try with_reducible rfl)
      try simp only [Act.put, List.setIfInBounds_toArray, List.set_cons_zero, List.set_cons_succ]
      refine anyT_takeL (i := 11) (v := ?vc11) rfl (by kernel_rfl) (by kernel_rfl) (by kernel_rfl) (by kernel_rfl) (by kernel_rfl) (fun _ _ _ h => h) (Or.inl ⟨by rfl, fun wS hSw => ?hyc11⟩) hS ?rec11
      case hyc11 => (dsimp only at hSw; obtain ⟨hS1, hS2, hS3⟩ := hSw; go_simp; try with_reducible rfl)
      try simp only [Act.put, List.setIfInBounds_toArray, List.set_cons_zero, List.set_cons_succ]
      refine anyT_takeL (i := 12) (v := undef) rfl (by kernel_rfl) (by kernel_rfl) (by kernel_rfl) (by kernel_rfl) (by kernel_rfl) (fun _ _ _ h => h) (Or.inr ⟨by rfl, rfl⟩) hS ?rec12
      try simp only [Act.put, List.setIfInBounds_toArray, List.set_cons_zero, List.set_cons_succ]
      refine anyT_takeL (i := 13) (v := undef) rfl (by kernel_rfl) (by kernel_rfl) (by kernel_rfl) (by kernel_rfl) (by kernel_rfl) (fun _ _ _ h => h) (Or.inr ⟨by rfl, rfl⟩) hS ?rec13
      try simp only [Act.put, List.setIfInBounds_toArray, List.set_cons_zero, List.set_cons_succ]
      refine anyT_takeL (i := 14) (v := undef) rfl (by kernel_rfl) (by kernel_rfl) (by kernel_rfl) (by kernel_rfl) (by kernel_rfl) (fun _ _ _ h => h) (Or.inr ⟨by rfl, rfl⟩) hS ?rec14
      try simp only [Act.put, List.setIfInBounds_toArray, List.set_cons_zero, List.set_cons_succ]
      refine anyT_takeL (i := 15) (v := undef) rfl (by kernel_rfl) (by kernel_rfl) (by kernel_rfl) (by kernel_rfl) (by kernel_rfl) (fun _ _ _ h => h) (Or.inr ⟨by rfl, rfl⟩) hS ?rec15
      try simp only [Act.put, List.setIfInBounds_toArray, List.set_cons_zero, List.set_cons_succ]
      refine anyT_takeL (i := 16) (v := undef) rfl (by kernel_rfl) (by kernel_rfl) (by kernel_rfl) (by kernel_rfl) (by kernel_rfl) (fun _ _ _ h => h) (Or.inr ⟨by rfl, rfl⟩) hS ?rec16
      try simp only [Act.put, List.setIfInBounds_toArray, List.set_cons_zero, List.set_cons_succ]
      refine anyT_takeL (i := 17) (v := undef) rfl (by kernel_rfl) (by kernel_rfl) (by kernel_rfl) (by kernel_rfl) (by kernel_rfl) (fun _ _ _ h => h) (Or.inr ⟨by rfl, rfl⟩) hS ?rec17
      try simp only [Act.put, List.setIfInBounds_toArray, List.set_cons_zero, List.set_cons_succ]
      refine anyT_takeL (i := 18) (v := undef) rfl (by kernel_rfl) (by kernel_rfl) (by kernel_rfl) (by kernel_rfl) (by kernel_rfl) (fun _ _ _ h => h) (Or.inr ⟨by rfl, rfl⟩) hS ?rec18
      try simp only [Act.put, List.setIfInBounds_toArray, List.set_cons_zero, List.set_cons_succ]
      refine anyT_oneL (i := 19) rfl (by kernel_rfl) ?_
      intro K hK
      go_simp
      try dsimp only
      refine hK _ _ (.inl rfl) ?_
      clear hK K hS
      try simp only [Act.put, List.setIfInBounds_toArray, List.set_cons_zero, List.set_cons_succ]
      refine anyT_done (by kernel_rfl) ?_ _
      try clear hS
      -- END
      go_wp2
      go_meet
      exact ⟨by rw [hq0]; rfl, rfl⟩
  case rest =>
    obtain ⟨rfl, rfl⟩ := hcut
    cases hq : (er != 0 || (m.group != r.group || m.to_ != r.id))
    · go_upto_region 4 with (fail)
      go_cut [39] (fun s wx => s = .bool (decide (r.term < m.term)) ∧ wx = w1.drew.drew)
      case first =>
        -- BLOCK ha
        have hS : (fun w' : World => (∀ i, w'.cell? ⟨w.heap.size, i, none⟩ = [Value.int .i64 m.kind, .int .i64 m.group, .int .i64 m.from_, .int .i64 m.to_, .int .i64 m.term, .int .i64 m.index, .int .i64 m.logTerm, .int .i64 m.commit, .bool m.ok, .slice A n c, .slice A2 n2 c2, .slice A3 n3 c3][i]?) ∧ w'.cell? ⟨b, 2, none⟩ = some (.int .i64 r.term)) w1.drew.drew := ⟨km, q2⟩
        refine wp_region_T 6 (fun w' : World => (∀ i, w'.cell? ⟨w.heap.size, i, none⟩ = [Value.int .i64 m.kind, .int .i64 m.group, .int .i64 m.from_, .int .i64 m.to_, .int .i64 m.term, .int .i64 m.index, .int .i64 m.logTerm, .int .i64 m.commit, .bool m.ok, .slice A n c, .slice A2 n2 c2, .slice A3 n3 c3][i]?) ∧ w'.cell? ⟨b, 2, none⟩ = some (.int .i64 r.term)) (by kernel_rfl) ?_
        refine anyT_takeL (i := 0) (v := ?vd0) rfl (by kernel_rfl) (by kernel_rfl) (by kernel_rfl) (by kernel_rfl) (by kernel_rfl) (fun _ _ _ h => h) (Or.inl ⟨by rfl, fun wS hSw => ?hyd0⟩) hS ?red0
        case hyd0 => (dsimp only at hSw; obtain ⟨hS1, hS2⟩ := hSw; go_simp; try with_reducible rfl)
        try simp only [Act.put, List.setIfInBounds_toArray, List.set_cons_zero, List.set_cons_succ]
        refine anyT_takeL (i := 1) (v := ?vd1) rfl (by kernel_rfl) (by kernel_rfl) (by kernel_rfl) (by kernel_rfl) (by kernel_rfl) (fun _ _ _ h => h) (Or.inl ⟨by rfl, fun wS hSw => ?hyd1⟩) hS ?red1
        case hyd1 => (dsimp only at hSw; obtain ⟨hS1, hS2⟩ := hSw; go_simp; try with_reducible rfl)
        try simp only [Act.put, List.setIfInBounds_toArray, List.set_cons_zero, List.set_cons_succ]
        refine anyT_takeL (i := 2) (v := ?vd2) rfl (by kernel_rfl) (by kernel_rfl) (by kernel_rfl) (by kernel_rfl) (by kernel_rfl) (fun _ _ _ h => h) (Or.inl ⟨by rfl, fun wS hSw => ?hyd2⟩) hS ?red2
        case hyd2 => (dsimp only at hSw; obtain ⟨hS1, hS2⟩ := hSw; go_simp; try with_reducible rfl)
        try simp only [Act.put, List.setIfInBounds_toArray, List.set_cons_zero, List.set_cons_succ]
        refine anyT_takeL (i := 3) (v := ?vd3) rfl (by kernel_rfl) (by kernel_rfl) (by kernel_rfl) (by kernel_rfl) (by kernel_rfl) (fun _ _ _ h => h) (Or.inl ⟨by rfl, fun wS hSw => ?hyd3⟩) hS ?red3
        case hyd3 => (dsimp only at hSw; obtain ⟨hS1, hS2⟩ := hSw; go_simp; try with_reducible rfl)
        try simp only [Act.put, List.setIfInBounds_toArray, List.set_cons_zero, List.set_cons_succ]
        refine anyT_takeL (i := 4) (v := ?vd4) rfl (by kernel_rfl) (by kernel_rfl) (by kernel_rfl) (by kernel_rfl) (by kernel_rfl) (fun _ _ _ h => h) (Or.inl ⟨by rfl, fun wS hSw => ?hyd4⟩) hS ?red4
        case hyd4 => (dsimp only at hSw; obtain ⟨hS1, hS2⟩ := hSw; go_simp; try with_reducible rfl)
        try simp only [Act.put, List.setIfInBounds_toArray, List.set_cons_zero, List.set_cons_succ]
        refine anyT_takeL (i := 5) (v := ?vd5) rfl (by kernel_rfl) (by kernel_rfl) (by kernel_rfl) (by kernel_rfl) (by kernel_rfl) (fun _ _ _ h => h) (Or.inl ⟨by rfl, fun wS hSw => ?hyd5⟩) hS ?red5
        case hyd5 => (dsimp only at hSw; obtain ⟨hS1, hS2⟩ := hSw; go_simp; try with_reducible rfl)
        try simp only [Act.put, List.setIfInBounds_toArray, List.set_cons_zero, List.set_cons_succ]
        refine anyT_oneL (i := 6) rfl (by kernel_rfl) ?_
        intro K hK
        go_simp
        try dsimp only
        refine hK _ _ (.inl rfl) ?_
        clear hK K hS
        try simp only [Act.put, List.setIfInBounds_toArray, List.set_cons_zero, List.set_cons_succ]
        refine anyT_done (by kernel_rfl) ?_ _
        try clear hS
        -- END
        go_wp2
        go_meet
        exact ⟨rfl, rfl⟩
      case rest =>
        obtain ⟨rfl, rfl⟩ := hcut
        go_upto_if 39 with (fail)
        go_cut [] (fun wx => Hid (RaftAt o kr kl wx b (r.risen m.term) ∧ Ext [kr] o o w wx ∧ Blk wx w.heap.size 48 (msgCells m (.slice A n c) (.slice A2 n2 c2) (.slice A3 n3 c3))))
        case first =>
          cases hq4 : (decide (r.term < m.term))
          · go_wp2_with fail
            go_meet
            have : ¬ r.term < m.term := by simpa using hq4
            exact ⟨by unfold RaftM.risen; rw [if_neg this]; exact HR1.out.drew.drew, HE1.out.drew.drew, HB1.out⟩
          · go_wp2_with fail
            refine (follow38 o kr kl b r m.term _ HR1.out.drew.drew hk hkl).mono ?_
            rintro e w2 ⟨⟨v2, rfl⟩, HR2, HE2⟩
            go_wp2_with fail
            go_meet
            have : r.term < m.term := by simpa using hq4
            exact ⟨by unfold RaftM.risen; rw [if_pos this]; exact HR2, HE1.out.trans HE2.undrew.undrew, HE2.undrew.undrew.blk HB1.out (by rw [HPO.out]; simpa using hk.symm)⟩
        case rest =>
          have HC : Hid (RaftAt o kr kl wc b (r.risen m.term) ∧ Ext [kr] o o w wc ∧ Blk wc w.heap.size 48 (msgCells m (.slice A n c) (.slice A2 n2 c2) (.slice A3 n3 c3))) := hcut.out
          have HF1 : Hid ((r.risen m.term).Fits) := HF.out.risen HS.out.term.1 ht1
          have HM1 : Hid ((r.risen m.term).match_ m.from_ ≤ 50000) := by have := HM.out; rw [← RaftM.risen_match (t := m.term)] at this; exact this
          have HST : Hid (∀ v er' w', OutIs o kr kl b ((r.risen m.term).stepped m) w v w' → StepIs o kr kl b r m w (.returned (.tuple #[v, .int .i64 er'])) w') := fun v er' w' hq => ⟨_, v, er', .inr rfl, rfl, hq⟩
          clear hcut HF HM HOUT HR1 HE1 HB1 HW1 HB01 H q0 q1 q2 km hml
          generalize r.risen m.term = r1 at HC HF1 HM1 HST
          obtain ⟨_, _, _, _, _, _, _, ⟨_, _, q2, _, _, _, q6, _, _, _, _, hltc⟩, _⟩ := HC.out.1.open_
          have km := HC.out.2.2.cells
          unfold msgCells at km
          have hml := HC.out.2.2.lt
          have HW : Hid (Wf o wc) := fun b hb => hw b (Nat.le_trans HC.out.2.1.size hb)
          go_upto_region 6 with (fail)
          go_cut [50] (fun s wx => s = .bool (decide (m.term < r1.term)) ∧ wx = wc.drew)
          case first =>
            -- BLOCK ka
            have hS : (fun w' : World => (∀ i, w'.cell? ⟨w.heap.size, i, none⟩ = [Value.int .i64 m.kind, .int .i64 m.group, .int .i64 m.from_, .int .i64 m.to_, .int .i64 m.term, .int .i64 m.index, .int .i64 m.logTerm, .int .i64 m.commit, .bool m.ok, .slice A n c, .slice A2 n2 c2, .slice A3 n3 c3][i]?) ∧ w'.cell? ⟨b, 2, none⟩ = some (.int .i64 r1.term)) wc.drew := ⟨km, q2⟩
            refine wp_region_T 6 (fun w' : World => (∀ i, w'.cell? ⟨w.heap.size, i, none⟩ = [Value.int .i64 m.kind, .int .i64 m.group, .int .i64 m.from_, .int .i64 m.to_, .int .i64 m.term, .int .i64 m.index, .int .i64 m.logTerm, .int .i64 m.commit, .bool m.ok, .slice A n c, .slice A2 n2 c2, .slice A3 n3 c3][i]?) ∧ w'.cell? ⟨b, 2, none⟩ = some (.int .i64 r1.term)) (by kernel_rfl) ?_
            refine anyT_takeL (i := 0) (v := ?ve0) rfl (by kernel_rfl) (by kernel_rfl) (by kernel_rfl) (by kernel_rfl) (by kernel_rfl) (fun _ _ _ h => h) (Or.inl ⟨by rfl, fun wS hSw => ?hye0⟩) hS ?ree0
            case hye0 => (dsimp only at hSw; obtain ⟨hS1, hS2⟩ := hSw; go_simp; try with_reducible rfl)
            try simp only [Act.put, List.setIfInBounds_toArray, List.set_cons_zero, List.set_cons_succ]
            refine anyT_takeL (i := 1) (v := ?ve1) rfl (by kernel_rfl) (by kernel_rfl) (by kernel_rfl) (by kernel_rfl) (by kernel_rfl) (fun _ _ _ h => h) (Or.inl ⟨by rfl, fun wS hSw => ?hye1⟩) hS ?ree1
            case hye1 => (dsimp only at hSw; obtain ⟨hS1, hS2⟩ := hSw; go_simp; try with_reducible rfl)
            try simp only [Act.put, List.setIfInBounds_toArray, List.set_cons_zero, List.set_cons_succ]
            refine anyT_takeL (i := 2) (v := ?ve2) rfl (by kernel_rfl) (by kernel_rfl) (by kernel_rfl) (by kernel_rfl) (by kernel_rfl) (fun _ _ _ h => h) (Or.inl ⟨by rfl, fun wS hSw => ?hye2⟩) hS ?ree2
            case hye2 => (dsimp only at hSw; obtain ⟨hS1, hS2⟩ := hSw; go_simp; try with_reducible rfl)
            try simp only [Act.put, List.setIfInBounds_toArray, List.set_cons_zero, List.set_cons_succ]
            refine anyT_takeL (i := 3) (v := ?ve3) rfl (by kernel_rfl) (by kernel_rfl) (by kernel_rfl) (by kernel_rfl) (by kernel_rfl) (fun _ _ _ h => h) (Or.inl ⟨by rfl, fun wS hSw => ?hye3⟩) hS ?ree3
            case hye3 => (dsimp only at hSw; obtain ⟨hS1, hS2⟩ := hSw; go_simp; try with_reducible rfl)
            try simp only [Act.put, List.setIfInBounds_toArray, List.set_cons_zero, List.set_cons_succ]
            refine anyT_takeL (i := 4) (v := ?ve4) rfl (by kernel_rfl) (by kernel_rfl) (by kernel_rfl) (by kernel_rfl) (by kernel_rfl) (fun _ _ _ h => h) (Or.inl ⟨by rfl, fun wS hSw => ?hye4⟩) hS ?ree4
            case hye4 => (dsimp only at hSw; obtain ⟨hS1, hS2⟩ := hSw; go_simp; try with_reducible rfl)
            try simp only [Act.put, List.setIfInBounds_toArray, List.set_cons_zero, List.set_cons_succ]
            refine anyT_takeL (i := 5) (v := ?ve5) rfl (by kernel_rfl) (by kernel_rfl) (by kernel_rfl) (by kernel_rfl) (by kernel_rfl) (fun _ _ _ h => h) (Or.inl ⟨by rfl, fun wS hSw => ?hye5⟩) hS ?ree5
            case hye5 => (dsimp only at hSw; obtain ⟨hS1, hS2⟩ := hSw; go_simp; try with_reducible rfl)
            try simp only [Act.put, List.setIfInBounds_toArray, List.set_cons_zero, List.set_cons_succ]
            refine anyT_oneL (i := 6) rfl (by kernel_rfl) ?_
            intro K hK
            go_simp
            try dsimp only
            refine hK _ _ (.inl rfl) ?_
            clear hK K hS
            try simp only [Act.put, List.setIfInBounds_toArray, List.set_cons_zero, List.set_cons_succ]
            refine anyT_done (by kernel_rfl) ?_ _
            try clear hS
            -- END
            go_wp2
            go_meet
            exact ⟨rfl, rfl⟩
          case rest =>
            obtain ⟨rfl, rfl⟩ := hcut
            cases hq6 : (decide (m.term < r1.term))
            · go_upto_block 0 with (fail)
              go_cut [1] (fun s wx => s = .agg #[.int .i64 m.kind, .int .i64 m.group, .int .i64 m.from_, .int .i64 m.to_, .int .i64 m.term, .int .i64 m.index, .int .i64 m.logTerm, .int .i64 m.commit, .bool m.ok, .slice A n c, .slice A2 n2 c2, .slice A3 n3 c3] ∧ Hid (∃ o2, RaftAt o2 kr kl wx b (r1.stepped m) ∧ Ext [kr, kl] o o2 w wx))
              case first =>
                cases k1 : (m.kind == 1)
                · cases k2 : (m.kind == 2)
                  · cases k3 : (m.kind == 3)
                    · cases k5 : (m.kind == 5)
                      · cases k4 : (m.kind == 4)
                        · skip
                          go_wp2_with fail
                          go_meet
                          have hst : r1.stepped m = r1 := by
                            unfold RaftM.stepped
                            rw [if_neg (by simpa using hq6), if_neg (by simpa using k1), if_neg (by simpa using k2), if_neg (by simpa using k3), if_neg (by simpa using k5), if_neg (by simpa using k4)]
                          exact ⟨rfl, _, by rw [hst]; exact HC.out.1.drew, (HC.out.2.1.mono (by simp)).drew⟩
                        · skip
                          go_wp2_with fail
                          refine (appended44 o kr kl b r1 m A n c A2 n2 c2 A3 n3 c3 _ HC.out.1.drew HF1.out HS.out.index.1 HS.out.index.2 HM1.out hf0 hf1 HW.out hk hkl hl0).mono ?_
                          rintro e w4 ⟨⟨v4, rfl⟩, o2, HR2, HE2⟩
                          go_wp2_with fail
                          go_meet
                          have hst : r1.stepped m = r1.appended m := by
                            unfold RaftM.stepped
                            rw [if_neg (by simpa using hq6), if_neg (by simpa using k1), if_neg (by simpa using k2), if_neg (by simpa using k3), if_neg (by simpa using k5), if_pos (by simpa using k4)]
                          exact ⟨rfl, _, by rw [hst]; exact HR2, (HC.out.2.1.mono (by simp)).trans HE2.undrew⟩
                      · skip
                        have HX : Hid (IntsAt (Of o 0) wc.drew (.slice A2 n2 c2) m.members ∧ BytesAt (Of o 0) wc.drew (.slice A3 n3 c3) m.data) := ⟨IntsAt.stays HI.out (HC.out.2.1.stays (by simpa using hk.symm)).drew, BytesAt.stays HD.out (HC.out.2.1.stays (by simpa using hk.symm)).drew⟩
                        go_wp2_with fail
                        refine (install43 o kr kl b r1 m A n c A2 n2 c2 A3 n3 c3 _ HC.out.1.drew HF1.out.ok.log (by have := HF1.out.out; omega) HS.out.index.1 (by have := HS.out.index; omega) (by have := HS.out.mem; omega) (by have := HS.out.data; omega) HX.out.1 HX.out.2 HW.out hk hkl hl0).mono ?_
                        rintro e w4 ⟨⟨v4, rfl⟩, o2, HR2, HE2⟩
                        go_wp2_with fail
                        go_meet
                        have hst : r1.stepped m = r1.install m := by
                          unfold RaftM.stepped
                          rw [if_neg (by simpa using hq6), if_neg (by simpa using k1), if_neg (by simpa using k2), if_neg (by simpa using k3), if_pos (by simpa using k5)]
                        exact ⟨rfl, _, by rw [hst]; exact HR2, (HC.out.2.1.mono (by simp)).trans HE2.undrew⟩
                    · skip
                      have HX : Hid (EntsAt (Of o 0) (Of o 0) wc.drew (.slice A n c) m.entries) := EntsAt.stays HE.out (HC.out.2.1.stays (by simpa using hk.symm)).drew (HC.out.2.1.stays (by simpa using hk.symm)).drew
                      go_wp2_with fail
                      refine (append42 o kr kl b r1 m A n c A2 n2 c2 A3 n3 c3 _ HC.out.1.drew HF1.out.ok.log (by have := HF1.out.i; have := HF1.out.ok.log.i0; omega) (by have := HF1.out.out; omega) HS.out.index.1 (by have := HS.out.index; omega) HS.out.ents HX.out HW.out hk hkl hl0).mono ?_
                      rintro e w4 ⟨⟨v4, rfl⟩, o2, HR2, HE2⟩
                      go_wp2_with fail
                      go_meet
                      have hst : r1.stepped m = r1.append m := by
                        unfold RaftM.stepped
                        rw [if_neg (by simpa using hq6), if_neg (by simpa using k1), if_neg (by simpa using k2), if_pos (by simpa using k3)]
                      exact ⟨rfl, _, by rw [hst]; exact HR2, (HC.out.2.1.mono (by simp)).trans HE2.undrew⟩
                  · cases hok : m.ok
                    · skip
                      go_wp2_with fail
                      go_meet
                      have hst : r1.stepped m = r1 := by
                        unfold RaftM.stepped
                        rw [if_neg (by simpa using hq6), if_neg (by simpa using k1), if_pos (by simpa using k2), if_neg (by rw [hok]; simp)]
                      exact ⟨by rw [hok], _, by rw [hst]; exact HC.out.1.drew, (HC.out.2.1.mono (by simp)).drew⟩
                    · cases hr2 : (r1.role == 2)
                      · skip
                        go_wp2_with fail
                        go_meet
                        have hst : r1.stepped m = r1 := by
                          unfold RaftM.stepped
                          rw [if_neg (by simpa using hq6), if_neg (by simpa using k1), if_pos (by simpa using k2), if_neg (by rintro ⟨_, h2⟩; rw [h2] at hr2; simp at hr2)]
                        exact ⟨by rw [hok], _, by rw [hst]; exact HC.out.1.drew, (HC.out.2.1.mono (by simp)).drew⟩
                      · obtain ⟨_, _, _, _, _, _, _, _, _, _, _, _, v6, o6, hB6⟩ := HC.out.1.open_
                        have hp0 : 0 ≤ m.from_ := by omega
                        have hp1 : m.from_ < 6 := by omega
                        have q9 : wc.cell? ⟨b, 9 + m.from_.toNat, none⟩ = some (.bool ((r1.votes[m.from_.toNat]?).getD false)) := by
                          rw [hB6.cells, raftCells_vote v6 m.from_.toNat (by omega)]
                        have f1 := hB6.frozens
                        have HG1 := Lib.hid (HC.out.1.drew.drew.field hk hkl (r' := { r1 with votes := r1.votes.set m.from_.toNat true }) (9 + m.from_.toNat) (.bool true) (fun _ _ _ => raftCells_setVote v6 m.from_.toNat (by omega) true) rfl rfl rfl (by simp [v6]) o6)
                        clear v6 o6 hB6
                        go_upto_region 14 with (fail)
                        -- BLOCK la
                        have hS : (fun w' : World => (∀ i, w'.cell? ⟨w.heap.size, i, none⟩ = [Value.int .i64 m.kind, .int .i64 m.group, .int .i64 m.from_, .int .i64 m.to_, .int .i64 m.term, .int .i64 m.index, .int .i64 m.logTerm, .int .i64 m.commit, .bool m.ok, .slice A n c, .slice A2 n2 c2, .slice A3 n3 c3][i]?)) wc.drew.drew := km
                        refine wp_region_T 6 (fun w' : World => (∀ i, w'.cell? ⟨w.heap.size, i, none⟩ = [Value.int .i64 m.kind, .int .i64 m.group, .int .i64 m.from_, .int .i64 m.to_, .int .i64 m.term, .int .i64 m.index, .int .i64 m.logTerm, .int .i64 m.commit, .bool m.ok, .slice A n c, .slice A2 n2 c2, .slice A3 n3 c3][i]?)) (by kernel_rfl) ?_
                        refine anyT_takeL (i := 0) (v := ?vf0) rfl (by kernel_rfl) (by kernel_rfl) (by kernel_rfl) (by kernel_rfl) (by kernel_rfl) (fun _ _ _ h => h) (Or.inl ⟨by rfl, fun wS hSw => ?hyf0⟩) hS ?ref0
                        case hyf0 => (dsimp only at hSw; obtain hS1 := hSw; go_simp; try with_reducible rfl)
                        try simp only [Act.put, List.setIfInBounds_toArray, List.set_cons_zero, List.set_cons_succ]
                        refine anyT_takeL (i := 1) (v := ?vf1) rfl (by kernel_rfl) (by kernel_rfl) (by kernel_rfl) (by kernel_rfl) (by kernel_rfl) (fun _ _ _ h => h) (Or.inl ⟨by rfl, fun wS hSw => ?hyf1⟩) hS ?ref1
                        case hyf1 => (dsimp only at hSw; obtain hS1 := hSw; go_simp; try with_reducible rfl)
                        try simp only [Act.put, List.setIfInBounds_toArray, List.set_cons_zero, List.set_cons_succ]
                        refine anyT_takeL (i := 2) (v := ?vf2) rfl (by kernel_rfl) (by kernel_rfl) (by kernel_rfl) (by kernel_rfl) (by kernel_rfl) (fun _ _ _ h => h) (Or.inl ⟨by rfl, fun wS hSw => ?hyf2⟩) hS ?ref2
                        case hyf2 => (dsimp only at hSw; obtain hS1 := hSw; go_simp; try with_reducible rfl)
                        try simp only [Act.put, List.setIfInBounds_toArray, List.set_cons_zero, List.set_cons_succ]
                        refine anyT_takeL (i := 3) (v := ?vf3) rfl (by kernel_rfl) (by kernel_rfl) (by kernel_rfl) (by kernel_rfl) (by kernel_rfl) (fun _ _ _ h => h) (Or.inl ⟨by rfl, fun wS hSw => ?hyf3⟩) hS ?ref3
                        case hyf3 => (dsimp only at hSw; obtain hS1 := hSw; go_simp; try with_reducible rfl)
                        try simp only [Act.put, List.setIfInBounds_toArray, List.set_cons_zero, List.set_cons_succ]
                        refine anyT_takeL (i := 4) (v := ?vf4) rfl (by kernel_rfl) (by kernel_rfl) (by kernel_rfl) (by kernel_rfl) (by kernel_rfl) (fun _ _ _ h => h) (Or.inl ⟨by rfl, fun wS hSw => ?hyf4⟩) hS ?ref4
                        case hyf4 => (dsimp only at hSw; obtain hS1 := hSw; go_simp; try with_reducible rfl)
                        try simp only [Act.put, List.setIfInBounds_toArray, List.set_cons_zero, List.set_cons_succ]
                        refine anyT_takeL (i := 5) (v := ?vf5) rfl (by kernel_rfl) (by kernel_rfl) (by kernel_rfl) (by kernel_rfl) (by kernel_rfl) (fun _ _ _ h => h) (Or.inl ⟨by rfl, fun wS hSw => ?hyf5⟩) hS ?ref5
                        case hyf5 => (dsimp only at hSw; obtain hS1 := hSw; go_simp; try with_reducible rfl)
                        try simp only [Act.put, List.setIfInBounds_toArray, List.set_cons_zero, List.set_cons_succ]
                        refine anyT_oneL (i := 6) rfl (by kernel_rfl) ?_
                        intro K hK
                        go_simp
                        try dsimp only
                        refine hK _ _ (.inl rfl) ?_
                        clear hK K hS
                        try simp only [Act.put, List.setIfInBounds_toArray, List.set_cons_zero, List.set_cons_succ]
                        refine anyT_done (by kernel_rfl) ?_ _
                        try clear hS
                        -- END
                        refine (fun (HH : ∀ U : World, Hid (RaftAt o kr kl U b { r1 with votes := r1.votes.set m.from_.toNat true } ∧ Ext [kr] o o w U) → Exit.then _ _ _ _ U) => HH _ ⟨HG1.out.1, HC.out.2.1.trans HG1.out.2.undrew.undrew⟩) ?_
                        intro U HU
                        clear HG1 q9 f1 q2 q6 km hml hltc
                        have HWU : Hid (Wf o U) := fun b hb => hw b (Nat.le_trans HU.out.2.size hb)
                        go_wp2_with fail
                        refine (elected41 o kr kl b _ _ HU.out.1 (HF1.out.voted _) HWU.out hk hkl hl0).mono ?_
                        rintro e w4 ⟨o2, rfl, HR2, HE2⟩
                        go_wp2_with fail
                        go_meet
                        have hst : r1.stepped m = ({ r1 with votes := r1.votes.set m.from_.toNat true } : RaftM).elected.2 := by
                          unfold RaftM.stepped
                          rw [if_neg (by simpa using hq6), if_neg (by simpa using k1), if_pos (by simpa using k2), if_pos ⟨hok, by simpa using hr2⟩]
                        exact ⟨by rw [hok], _, by rw [hst]; exact HR2, (HU.out.2.mono (by simp)).trans HE2⟩
                · skip
                  go_wp2_with fail
                  refine (asked40 o kr kl b r1 m A n c A2 n2 c2 A3 n3 c3 _ HC.out.1.drew HF1.out.ok.log.len (by have := HF1.out.out; omega) HW.out hk hkl).mono ?_
                  rintro e w4 ⟨⟨v4, rfl⟩, o2, HR2, HE2⟩
                  go_wp2_with fail
                  go_meet
                  have hst : r1.stepped m = r1.asked m := by
                    unfold RaftM.stepped
                    rw [if_neg (by simpa using hq6), if_pos (by simpa using k1)]
                  exact ⟨rfl, _, by rw [hst]; exact HR2, (HC.out.2.1.trans HE2.undrew).mono (by simp)⟩
              case rest =>
                obtain ⟨rfl, hcut⟩ := hcut
                obtain ⟨o2, HR2, HE2⟩ := hcut.out
                clear hcut
                go_wp2_with fail
                refine (take34 o2 kr kl b _ _ HR2 hk hkl).mono ?_
                intro e w5 hq
                obtain ⟨v5, rfl, HO5⟩ := OutIs.of_take hq HE2
                go_wp2_with fail
                go_returns
                exact HST.out _ _ _ HO5
            · go_wp2_with fail
              refine (refuse39 o kr kl b r1 m A n c A2 n2 c2 A3 n3 c3 _ HC.out.1.drew (by have := HF1.out.out; omega) HW.out hk hkl).mono ?_
              rintro e w4 ⟨⟨v4, rfl⟩, o2, HR2, HE2⟩
              have HST2 : Hid (r1.stepped m = r1.refuse m) := by unfold Hid RaftM.stepped; rw [if_pos (by simpa using hq6)]
              go_wp2_with fail
              refine (take34 o2 kr kl b _ _ HR2 hk hkl).mono ?_
              intro e w5 hq
              obtain ⟨v5, rfl, HO5⟩ := OutIs.of_take hq ((HC.out.2.1.trans HE2.undrew).mono (by simp))
              go_wp2_with fail
              go_returns
              exact HST.out _ _ _ (by rw [HST2.out]; exact HO5)
    · go_wp2
      go_returns
      exact ⟨r, _, _, .inl rfl, rfl, OutIs.none_ HR1.out.drew (HE1.out.drew.mono (by simp)) HOUT.out⟩
end Go.Proofs.Ytibkmhacpodceaa
