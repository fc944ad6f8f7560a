/- Walks: refuse, asked. -/
import Derived.Test.YtibkmhacpodceaaW28
namespace Go.Proofs.Ytibkmhacpodceaa
open Go.RowKit

def msgCells (m : Msg) (v1 v2 v3 : Value) : List Value := [.int .i64 m.kind, .int .i64 m.group, .int .i64 m.from_, .int .i64 m.to_, .int .i64 m.term, .int .i64 m.index, .int .i64 m.logTerm, .int .i64 m.commit, .bool m.ok, v1, v2, v3]

set_option maxHeartbeats 4000000 in
theorem refuse39 (o : Own) (kr kl : Nat) (b : Nat) (r : RaftM) (m : Msg) (A n c A2 n2 c2 A3 n3 c3) (w : World) (h : RaftAt o kr kl w b r) (hlen : r.out.length ≤ 50000) (hw : Wf o w) (hk : kr ≠ 0) (hkl : kr ≠ kl) :
    Calls Try.prog 39 #[.pointer (some ⟨b, 0, none⟩), .agg #[.int .i64 m.kind, .int .i64 m.group, .int .i64 m.from_, .int .i64 m.to_, .int .i64 m.term, .int .i64 m.index, .int .i64 m.logTerm, .int .i64 m.commit, .bool m.ok, .slice A n c, .slice A2 n2 c2, .slice A3 n3 c3]] w
      (SendIs o kr kl b (r.refuse m) w) := by
  have H := Lib.hid h
  clear h
  have hbA : ∀ x, Below w.heap.size w (w.alloc x) := fun x => (Below.refl _ _).alloc (Nat.le_refl _) _
  have HBA := Lib.hid hbA
  clear hbA
  by_cases hk1 : m.kind = 1
  · have hk1' : (m.kind == 1) = true := by simpa using hk1
    have hre : r.refuse m = r.send { kind := 2, to_ := m.from_ } := by unfold RaftM.refuse; rw [if_pos hk1]
    have HRE := Lib.hid hre
    clear hre hk1
    go_enter Try.func39, Try.ntmps39
    go_wp2_with fail
    refine (send59 o kr kl b r { kind := 2, to_ := m.from_ } 0 0 0 none 0 0 none 0 0 none 0 0 _ (H.out.below (HBA.out _) hw) (fun b hb => hw b (by simp at hb; omega)) hk hkl hlen SliceOf.nil_ SliceOf.nil_ SliceOf.nil_).mono ?_
    rintro e w1 ⟨⟨v1, rfl⟩, o1, h1, he1⟩
    go_wp2
    go_returns
    exact ⟨⟨_, rfl⟩, o1, by rw [HRE.out]; exact h1, (Ext.of_below (HBA.out _) hw).trans he1⟩
  · have hk1' : (m.kind == 1) = false := by simpa using hk1
    by_cases hk3 : m.kind = 3 ∨ m.kind = 5
    · have hre : r.refuse m = r.send { kind := 4, to_ := m.from_ } := by unfold RaftM.refuse; rw [if_neg hk1, if_pos hk3]
      have HRE := Lib.hid hre
      clear hre hk1
      rcases hk3 with hk3 | hk3
      · have hk3' : (m.kind == 3) = true := by simpa using hk3
        clear hk3
        go_enter Try.func39, Try.ntmps39
        go_wp2_with fail
        refine (send59 o kr kl b r { kind := 4, to_ := m.from_ } 0 0 0 none 0 0 none 0 0 none 0 0 _ (H.out.below (HBA.out _) hw) (fun b hb => hw b (by simp at hb; omega)) hk hkl hlen SliceOf.nil_ SliceOf.nil_ SliceOf.nil_).mono ?_
        rintro e w1 ⟨⟨v1, rfl⟩, o1, h1, he1⟩
        go_wp2
        go_returns
        exact ⟨⟨_, rfl⟩, o1, by rw [HRE.out]; exact h1, (Ext.of_below (HBA.out _) hw).trans he1⟩
      · have hk3' : (m.kind == 3) = false := by simp [hk3]
        have hk5' : (m.kind == 5) = true := by simpa using hk3
        clear hk3
        go_enter Try.func39, Try.ntmps39
        go_wp2_with fail
        refine (send59 o kr kl b r { kind := 4, to_ := m.from_ } 0 0 0 none 0 0 none 0 0 none 0 0 _ (H.out.below (HBA.out _) hw) (fun b hb => hw b (by simp at hb; omega)) hk hkl hlen SliceOf.nil_ SliceOf.nil_ SliceOf.nil_).mono ?_
        rintro e w1 ⟨⟨v1, rfl⟩, o1, h1, he1⟩
        go_wp2
        go_returns
        exact ⟨⟨_, rfl⟩, o1, by rw [HRE.out]; exact h1, (Ext.of_below (HBA.out _) hw).trans he1⟩
    · have hre : r.refuse m = r := by unfold RaftM.refuse; rw [if_neg hk1, if_neg hk3]
      have HRE := Lib.hid hre
      have hk3' : (m.kind == 3) = false := by simp; exact fun h => hk3 (.inl h)
      have hk5' : (m.kind == 5) = false := by simp; exact fun h => hk3 (.inr h)
      clear hre hk1 hk3
      go_enter Try.func39, Try.ntmps39
      go_wp2
      go_returns
      exact ⟨⟨_, rfl⟩, o, by rw [HRE.out]; exact H.out.below (HBA.out _) hw, Ext.of_below (HBA.out _) hw⟩

set_option maxHeartbeats 8000000 in
theorem asked40 (o : Own) (kr kl : Nat) (b : Nat) (r : RaftM) (m : Msg) (A n c A2 n2 c2 A3 n3 c3) (w : World) (h : RaftAt o kr kl w b r) (hel : r.log.ents.length ≤ 20000) (hlen : r.out.length ≤ 50000) (hw : Wf o w) (hk : kr ≠ 0) (hkl : kr ≠ kl) :
    Calls Try.prog 40 #[.pointer (some ⟨b, 0, none⟩), .agg #[.int .i64 m.kind, .int .i64 m.group, .int .i64 m.from_, .int .i64 m.to_, .int .i64 m.term, .int .i64 m.index, .int .i64 m.logTerm, .int .i64 m.commit, .bool m.ok, .slice A n c, .slice A2 n2 c2, .slice A3 n3 c3]] w
      (SendIs o kr kl b (r.asked m) w) := by
  have H := Lib.hid h
  clear h
  go_enter Try.func40, Try.ntmps40
  go_wp2
  refine (fun (HH : ∀ V : World, Below w.heap.size w V → Blk V w.heap.size 48 (msgCells m (.slice A n c) (.slice A2 n2 c2) (.slice A3 n3 c3)) → Code.wp Try.prog _ _ _ V) => HH _ ((Below.refl _ _).alloc (Nat.le_refl _) _) (Blk.new w 48 _)) ?_
  intro V hbV hBV
  have km := hBV.cells
  unfold msgCells at km
  obtain ⟨lb, As, ns, cs, Ao, no, co, ⟨d0, d1, d2, d3, d4, d5, d6, d7, d8, d27, f, hlt⟩, ho, hL, _⟩ := (H.out.below hbV hw).open_
  have HL := Lib.hid hL
  have hml := hBV.lt
  have HBV := Lib.hid hbV
  have HMB := Lib.hid hBV
  have hsV := hbV.size
  have HRV := Lib.hid (H.out.below hbV hw)
  clear hL hbV hBV d0 d1 d2 d5 d6 d7 d27
  by_cases hv0 : r.vote = 0
  · have hv0' : (r.vote == 0) = true := by simpa using hv0
    have HV0 := Lib.hid hv0
    clear hv0
    cases hnw : r.log.newer m.index m.logTerm
    · have HNW := Lib.hid hnw
      clear hnw
      -- BLOCK a0
      have hS : (fun w' : World => w'.cell? ⟨b, 3, none⟩ = some (.int .i64 r.vote) ∧ w'.cell? ⟨b, 4, none⟩ = some (.pointer (some ⟨lb, 0, none⟩)) ∧ (∀ i, w'.cell? ⟨w.heap.size, i, none⟩ = [Value.int .i64 m.kind, .int .i64 m.group, .int .i64 m.from_, .int .i64 m.to_, .int .i64 m.term, .int .i64 m.index, .int .i64 m.logTerm, .int .i64 m.commit, .bool m.ok, .slice A n c, .slice A2 n2 c2, .slice A3 n3 c3][i]?)) V.drew := ⟨d3, d4, km⟩
      refine wp_region_T 25 (fun w' : World => w'.cell? ⟨b, 3, none⟩ = some (.int .i64 r.vote) ∧ w'.cell? ⟨b, 4, none⟩ = some (.pointer (some ⟨lb, 0, none⟩)) ∧ (∀ i, w'.cell? ⟨w.heap.size, i, none⟩ = [Value.int .i64 m.kind, .int .i64 m.group, .int .i64 m.from_, .int .i64 m.to_, .int .i64 m.term, .int .i64 m.index, .int .i64 m.logTerm, .int .i64 m.commit, .bool m.ok, .slice A n c, .slice A2 n2 c2, .slice A3 n3 c3][i]?)) (by kernel_rfl) ?_
      refine anyT_takeL (i := 0) (v := ?va0) rfl (by kernel_rfl) (by kernel_rfl) (by kernel_rfl) (by kernel_rfl) (by kernel_rfl) (fun _ _ _ h => h) (Or.inl ⟨by rfl, fun wS hSw => ?hya0⟩) hS ?rea0
      case hya0 => (dsimp only at hSw; obtain ⟨hS1, hS2, hS3⟩ := hSw; go_simp; try with_reducible rfl)
      try simp only [Act.put, List.setIfInBounds_toArray, List.set_cons_zero, List.set_cons_succ]
      refine anyT_takeL (i := 1) (v := ?va1) rfl (by kernel_rfl) (by kernel_rfl) (by kernel_rfl) (by kernel_rfl) (by kernel_rfl) (fun _ _ _ h => h) (Or.inl ⟨by rfl, fun wS hSw => ?hya1⟩) hS ?rea1
      case hya1 => (dsimp only at hSw; obtain ⟨hS1, hS2, hS3⟩ := hSw; go_simp; try with_reducible rfl)
      try simp only [Act.put, List.setIfInBounds_toArray, List.set_cons_zero, List.set_cons_succ]
      refine anyT_takeL (i := 2) (v := ?va2) rfl (by kernel_rfl) (by kernel_rfl) (by kernel_rfl) (by kernel_rfl) (by kernel_rfl) (fun _ _ _ h => h) (Or.inl ⟨by rfl, fun wS hSw => ?hya2⟩) hS ?rea2
      case hya2 => (dsimp only at hSw; obtain ⟨hS1, hS2, hS3⟩ := hSw; go_simp; try with_reducible rfl)
      try simp only [Act.put, List.setIfInBounds_toArray, List.set_cons_zero, List.set_cons_succ]
      refine anyT_takeL (i := 3) (v := ?va3) rfl (by kernel_rfl) (by kernel_rfl) (by kernel_rfl) (by kernel_rfl) (by kernel_rfl) (fun _ _ _ h => h) (Or.inl ⟨by rfl, fun wS hSw => ?hya3⟩) hS ?rea3
      case hya3 => (dsimp only at hSw; obtain ⟨hS1, hS2, hS3⟩ := hSw; go_simp; try with_reducible rfl)
      try simp only [Act.put, List.setIfInBounds_toArray, List.set_cons_zero, List.set_cons_succ]
      refine anyT_takeL (i := 4) (v := ?va4) rfl (by kernel_rfl) (by kernel_rfl) (by kernel_rfl) (by kernel_rfl) (by kernel_rfl) (fun _ _ _ h => h) (Or.inl ⟨by rfl, fun wS hSw => ?hya4⟩) hS ?rea4
      case hya4 => (dsimp only at hSw; obtain ⟨hS1, hS2, hS3⟩ := hSw; go_simp; try with_reducible rfl)
      try simp only [Act.put, List.setIfInBounds_toArray, List.set_cons_zero, List.set_cons_succ]
      refine anyT_takeL (i := 5) (v := ?va5) rfl (by kernel_rfl) (by kernel_rfl) (by kernel_rfl) (by kernel_rfl) (by kernel_rfl) (fun _ _ _ h => h) (Or.inl ⟨by rfl, fun wS hSw => ?hya5⟩) hS ?rea5
      case hya5 => (dsimp only at hSw; obtain ⟨hS1, hS2, hS3⟩ := hSw; go_simp; try with_reducible rfl)
      try simp only [Act.put, List.setIfInBounds_toArray, List.set_cons_zero, List.set_cons_succ]
      refine anyT_takeL (i := 6) (v := undef) rfl (by kernel_rfl) (by kernel_rfl) (by kernel_rfl) (by kernel_rfl) (by kernel_rfl) (fun _ _ _ h => h) (Or.inr ⟨by rfl, rfl⟩) hS ?rea6
      try simp only [Act.put, List.setIfInBounds_toArray, List.set_cons_zero, List.set_cons_succ]
      refine anyT_takeL (i := 7) (v := undef) rfl (by kernel_rfl) (by kernel_rfl) (by kernel_rfl) (by kernel_rfl) (by kernel_rfl) (fun _ _ _ h => h) (Or.inr ⟨by rfl, rfl⟩) hS ?rea7
      try simp only [Act.put, List.setIfInBounds_toArray, List.set_cons_zero, List.set_cons_succ]
      refine anyT_takeL (i := 8) (v := undef) rfl (by kernel_rfl) (by kernel_rfl) (by kernel_rfl) (by kernel_rfl) (by kernel_rfl) (fun _ _ _ h => h) (Or.inr ⟨by rfl, rfl⟩) hS ?rea8
      try simp only [Act.put, List.setIfInBounds_toArray, List.set_cons_zero, List.set_cons_succ]
      refine anyT_takeL (i := 9) (v := undef) rfl (by kernel_rfl) (by kernel_rfl) (by kernel_rfl) (by kernel_rfl) (by kernel_rfl) (fun _ _ _ h => h) (Or.inr ⟨by rfl, rfl⟩) hS ?rea9
      try simp only [Act.put, List.setIfInBounds_toArray, List.set_cons_zero, List.set_cons_succ]
      refine anyT_takeL (i := 10) (v := undef) rfl (by kernel_rfl) (by kernel_rfl) (by kernel_rfl) (by kernel_rfl) (by kernel_rfl) (fun _ _ _ h => h) (Or.inr ⟨by rfl, rfl⟩) hS ?rea10
      try simp only [Act.put, List.setIfInBounds_toArray, List.set_cons_zero, List.set_cons_succ]
      refine anyT_takeL (i := 11) (v := undef) rfl (by kernel_rfl) (by kernel_rfl) (by kernel_rfl) (by kernel_rfl) (by kernel_rfl) (fun _ _ _ h => h) (Or.inr ⟨by rfl, rfl⟩) hS ?rea11
      try simp only [Act.put, List.setIfInBounds_toArray, List.set_cons_zero, List.set_cons_succ]
      refine anyT_takeL (i := 12) (v := undef) rfl (by kernel_rfl) (by kernel_rfl) (by kernel_rfl) (by kernel_rfl) (by kernel_rfl) (fun _ _ _ h => h) (Or.inr ⟨by rfl, rfl⟩) hS ?rea12
      try simp only [Act.put, List.setIfInBounds_toArray, List.set_cons_zero, List.set_cons_succ]
      refine anyT_takeL (i := 13) (v := ?va13) rfl (by kernel_rfl) (by kernel_rfl) (by kernel_rfl) (by kernel_rfl) (by kernel_rfl) (fun _ _ _ h => h) (Or.inl ⟨by rfl, fun wS hSw => ?hya13⟩) hS ?rea13
      case hya13 => (dsimp only at hSw; obtain ⟨hS1, hS2, hS3⟩ := hSw; go_simp; try with_reducible rfl)
      try simp only [Act.put, List.setIfInBounds_toArray, List.set_cons_zero, List.set_cons_succ]
      refine anyT_takeL (i := 14) (v := ?va14) rfl (by kernel_rfl) (by kernel_rfl) (by kernel_rfl) (by kernel_rfl) (by kernel_rfl) (fun _ _ _ h => h) (Or.inl ⟨by rfl, fun wS hSw => ?hya14⟩) hS ?rea14
      case hya14 => (dsimp only at hSw; obtain ⟨hS1, hS2, hS3⟩ := hSw; go_simp; try with_reducible rfl)
      try simp only [Act.put, List.setIfInBounds_toArray, List.set_cons_zero, List.set_cons_succ]
      refine anyT_takeL (i := 15) (v := ?va15) rfl (by kernel_rfl) (by kernel_rfl) (by kernel_rfl) (by kernel_rfl) (by kernel_rfl) (fun _ _ _ h => h) (Or.inl ⟨by rfl, fun wS hSw => ?hya15⟩) hS ?rea15
      case hya15 => (dsimp only at hSw; obtain ⟨hS1, hS2, hS3⟩ := hSw; go_simp; try with_reducible rfl)
      try simp only [Act.put, List.setIfInBounds_toArray, List.set_cons_zero, List.set_cons_succ]
      refine anyT_takeL (i := 16) (v := ?va16) rfl (by kernel_rfl) (by kernel_rfl) (by kernel_rfl) (by kernel_rfl) (by kernel_rfl) (fun _ _ _ h => h) (Or.inl ⟨by rfl, fun wS hSw => ?hya16⟩) hS ?rea16
      case hya16 => (dsimp only at hSw; obtain ⟨hS1, hS2, hS3⟩ := hSw; go_simp; try with_reducible rfl)
      try simp only [Act.put, List.setIfInBounds_toArray, List.set_cons_zero, List.set_cons_succ]
      refine anyT_takeL (i := 17) (v := ?va17) rfl (by kernel_rfl) (by kernel_rfl) (by kernel_rfl) (by kernel_rfl) (by kernel_rfl) (fun _ _ _ h => h) (Or.inl ⟨by rfl, fun wS hSw => ?hya17⟩) hS ?rea17
      case hya17 => (dsimp only at hSw; obtain ⟨hS1, hS2, hS3⟩ := hSw; go_simp; try with_reducible rfl)
      try simp only [Act.put, List.setIfInBounds_toArray, List.set_cons_zero, List.set_cons_succ]
      refine anyT_takeL (i := 18) (v := ?va18) rfl (by kernel_rfl) (by kernel_rfl) (by kernel_rfl) (by kernel_rfl) (by kernel_rfl) (fun _ _ _ h => h) (Or.inl ⟨by rfl, fun wS hSw => ?hya18⟩) hS ?rea18
      case hya18 => (dsimp only at hSw; obtain ⟨hS1, hS2, hS3⟩ := hSw; go_simp; try with_reducible rfl)
      try simp only [Act.put, List.setIfInBounds_toArray, List.set_cons_zero, List.set_cons_succ]
      refine anyT_takeL (i := 19) (v := ?va19) rfl (by kernel_rfl) (by kernel_rfl) (by kernel_rfl) (by kernel_rfl) (by kernel_rfl) (fun _ _ _ h => h) (Or.inl ⟨by rfl, fun wS hSw => ?hya19⟩) hS ?rea19
      case hya19 => (dsimp only at hSw; obtain ⟨hS1, hS2, hS3⟩ := hSw; go_simp; try with_reducible rfl)
      try simp only [Act.put, List.setIfInBounds_toArray, List.set_cons_zero, List.set_cons_succ]
      refine anyT_takeL (i := 20) (v := ?va20) rfl (by kernel_rfl) (by kernel_rfl) (by kernel_rfl) (by kernel_rfl) (by kernel_rfl) (fun _ _ _ h => h) (Or.inl ⟨by rfl, fun wS hSw => ?hya20⟩) hS ?rea20
      case hya20 => (dsimp only at hSw; obtain ⟨hS1, hS2, hS3⟩ := hSw; go_simp; try with_reducible rfl)
      try simp only [Act.put, List.setIfInBounds_toArray, List.set_cons_zero, List.set_cons_succ]
      refine anyT_takeL (i := 21) (v := ?va21) rfl (by kernel_rfl) (by kernel_rfl) (by kernel_rfl) (by kernel_rfl) (by kernel_rfl) (fun _ _ _ h => h) (Or.inl ⟨by rfl, fun wS hSw => ?hya21⟩) hS ?rea21
      case hya21 => (dsimp only at hSw; obtain ⟨hS1, hS2, hS3⟩ := hSw; go_simp; try with_reducible rfl)
      try simp only [Act.put, List.setIfInBounds_toArray, List.set_cons_zero, List.set_cons_succ]
      refine anyT_takeL (i := 22) (v := ?va22) rfl (by kernel_rfl) (by kernel_rfl) (by kernel_rfl) (by kernel_rfl) (by kernel_rfl) (fun _ _ _ h => h) (Or.inl ⟨by rfl, fun wS hSw => ?hya22⟩) hS ?rea22
      case hya22 => (dsimp only at hSw; obtain ⟨hS1, hS2, hS3⟩ := hSw; go_simp; try with_reducible rfl)
      try simp only [Act.put, List.setIfInBounds_toArray, List.set_cons_zero, List.set_cons_succ]
      refine anyT_oneL (i := 23) rfl (by kernel_rfl) ?_
      intro K hK
      go_simp
      refine (newer66 o kl lb r.log m.index m.logTerm _ (show LogAt o kl V.drew lb r.log from HL.out) hel).mono ?_
      rintro e wc ⟨he, hbc⟩
      rw [HNW.out] at he
      subst he
      have hbc' : Below V.heap.size V wc := ⟨hbc.os, hbc.tape, hbc.output, hbc.size, hbc.block⟩
      have y3 := (hbc'.cell (p := ⟨b, 3, none⟩) hlt).trans d3
      have y4 := (hbc'.cell (p := ⟨b, 4, none⟩) hlt).trans d4
      have y8 := (hbc'.cell (p := ⟨b, 8, none⟩) hlt).trans d8
      have ym : ∀ i, wc.cell? ⟨w.heap.size, i, none⟩ = [Value.int .i64 m.kind, .int .i64 m.group, .int .i64 m.from_, .int .i64 m.to_, .int .i64 m.term, .int .i64 m.index, .int .i64 m.logTerm, .int .i64 m.commit, .bool m.ok, .slice A n c, .slice A2 n2 c2, .slice A3 n3 c3][i]? := fun i => (hbc'.cell (p := ⟨w.heap.size, i, none⟩) hml).trans (km i)
      have fc : ∀ i, wc.frozen? ⟨b, i, none⟩ = false := fun i => (hbc'.frozen (p := ⟨b, i, none⟩) hlt).trans (f i)
      have hltc : b < wc.heap.size := Nat.lt_of_lt_of_le hlt hbc'.size
      have hne : w.heap.size ≠ b := by
        intro hq
        have := hlt
        have h1 := HMB.out
        rw [hq] at h1
        obtain ⟨_, _, _, _, _, _, _, hb2, _⟩ := HRV.out
        exact Blk.ne_ h1 hb2 (by decide) rfl
      have HBC : Hid (Below w.heap.size w wc) := HBV.out.trans (hbc'.mono HBV.out.size)
      have HRC := Lib.hid (H.out.below HBC.out hw)
      clear hbc hbc'
      try dsimp only
      clear hS
      have hS : (fun w' : World => w'.cell? ⟨b, 3, none⟩ = some (.int .i64 r.vote) ∧ w'.cell? ⟨b, 4, none⟩ = some (.pointer (some ⟨lb, 0, none⟩)) ∧ (∀ i, w'.cell? ⟨w.heap.size, i, none⟩ = [Value.int .i64 m.kind, .int .i64 m.group, .int .i64 m.from_, .int .i64 m.to_, .int .i64 m.term, .int .i64 m.index, .int .i64 m.logTerm, .int .i64 m.commit, .bool m.ok, .slice A n c, .slice A2 n2 c2, .slice A3 n3 c3][i]?)) wc := ⟨y3, y4, ym⟩
      refine hK _ _ (.inr hS) ?_
      clear hK K
      try simp only [Act.put, List.setIfInBounds_toArray, List.set_cons_zero, List.set_cons_succ]
      refine anyT_takeL (i := 24) (v := ?va24) rfl (by kernel_rfl) (by kernel_rfl) (by kernel_rfl) (by kernel_rfl) (by kernel_rfl) (fun _ _ _ h => h) (Or.inl ⟨by rfl, fun wS hSw => ?hya24⟩) hS ?rea24
      case hya24 => (dsimp only at hSw; obtain ⟨hS1, hS2, hS3⟩ := hSw; go_simp; try with_reducible rfl)
      try simp only [Act.put, List.setIfInBounds_toArray, List.set_cons_zero, List.set_cons_succ]
      refine anyT_oneL (i := 25) rfl (by kernel_rfl) ?_
      intro K hK
      go_simp
      try dsimp only
      refine hK _ _ (.inl rfl) ?_
      clear hK K hS
      try simp only [Act.put, List.setIfInBounds_toArray, List.set_cons_zero, List.set_cons_succ]
      refine anyT_done (by kernel_rfl) ?_ _
      try clear hS
      -- END
      have hre : r.asked m = r.send { kind := 2, to_ := m.from_ } := by unfold RaftM.asked; rw [if_neg (by rw [HNW.out]; rintro ⟨_, h⟩; cases h)]
      have HRE := Lib.hid hre
      clear hre
      go_wp2_with fail
      refine (send59 o kr kl b r { kind := 2, to_ := m.from_ } 0 0 0 none 0 0 none 0 0 none 0 0 _ HRC.out (fun b hb => hw b (Nat.le_trans HBC.out.size hb)) hk hkl hlen SliceOf.nil_ SliceOf.nil_ SliceOf.nil_).mono ?_
      rintro e w1 ⟨⟨v1, rfl⟩, o1, h1, he1⟩
      go_wp2
      go_returns
      exact ⟨⟨_, rfl⟩, o1, by rw [HRE.out]; exact h1, (Ext.of_below HBC.out hw).trans he1⟩
    · have HNW := Lib.hid hnw
      clear hnw
      -- BLOCK a1
      have hS : (fun w' : World => w'.cell? ⟨b, 3, none⟩ = some (.int .i64 r.vote) ∧ w'.cell? ⟨b, 4, none⟩ = some (.pointer (some ⟨lb, 0, none⟩)) ∧ (∀ i, w'.cell? ⟨w.heap.size, i, none⟩ = [Value.int .i64 m.kind, .int .i64 m.group, .int .i64 m.from_, .int .i64 m.to_, .int .i64 m.term, .int .i64 m.index, .int .i64 m.logTerm, .int .i64 m.commit, .bool m.ok, .slice A n c, .slice A2 n2 c2, .slice A3 n3 c3][i]?)) V.drew := ⟨d3, d4, km⟩
      refine wp_region_T 25 (fun w' : World => w'.cell? ⟨b, 3, none⟩ = some (.int .i64 r.vote) ∧ w'.cell? ⟨b, 4, none⟩ = some (.pointer (some ⟨lb, 0, none⟩)) ∧ (∀ i, w'.cell? ⟨w.heap.size, i, none⟩ = [Value.int .i64 m.kind, .int .i64 m.group, .int .i64 m.from_, .int .i64 m.to_, .int .i64 m.term, .int .i64 m.index, .int .i64 m.logTerm, .int .i64 m.commit, .bool m.ok, .slice A n c, .slice A2 n2 c2, .slice A3 n3 c3][i]?)) (by kernel_rfl) ?_
      refine anyT_takeL (i := 0) (v := ?vd0) rfl (by kernel_rfl) (by kernel_rfl) (by kernel_rfl) (by kernel_rfl) (by kernel_rfl) (fun _ _ _ h => h) (Or.inl ⟨by rfl, fun wS hSw => ?hyd0⟩) hS ?red0
      case hyd0 => (dsimp only at hSw; obtain ⟨hS1, hS2, hS3⟩ := hSw; go_simp; try with_reducible rfl)
      try simp only [Act.put, List.setIfInBounds_toArray, List.set_cons_zero, List.set_cons_succ]
      refine anyT_takeL (i := 1) (v := ?vd1) rfl (by kernel_rfl) (by kernel_rfl) (by kernel_rfl) (by kernel_rfl) (by kernel_rfl) (fun _ _ _ h => h) (Or.inl ⟨by rfl, fun wS hSw => ?hyd1⟩) hS ?red1
      case hyd1 => (dsimp only at hSw; obtain ⟨hS1, hS2, hS3⟩ := hSw; go_simp; try with_reducible rfl)
      try simp only [Act.put, List.setIfInBounds_toArray, List.set_cons_zero, List.set_cons_succ]
      refine anyT_takeL (i := 2) (v := ?vd2) rfl (by kernel_rfl) (by kernel_rfl) (by kernel_rfl) (by kernel_rfl) (by kernel_rfl) (fun _ _ _ h => h) (Or.inl ⟨by rfl, fun wS hSw => ?hyd2⟩) hS ?red2
      case hyd2 => (dsimp only at hSw; obtain ⟨hS1, hS2, hS3⟩ := hSw; go_simp; try with_reducible rfl)
      try simp only [Act.put, List.setIfInBounds_toArray, List.set_cons_zero, List.set_cons_succ]
      refine anyT_takeL (i := 3) (v := ?vd3) rfl (by kernel_rfl) (by kernel_rfl) (by kernel_rfl) (by kernel_rfl) (by kernel_rfl) (fun _ _ _ h => h) (Or.inl ⟨by rfl, fun wS hSw => ?hyd3⟩) hS ?red3
      case hyd3 => (dsimp only at hSw; obtain ⟨hS1, hS2, hS3⟩ := hSw; go_simp; try with_reducible rfl)
      try simp only [Act.put, List.setIfInBounds_toArray, List.set_cons_zero, List.set_cons_succ]
      refine anyT_takeL (i := 4) (v := ?vd4) rfl (by kernel_rfl) (by kernel_rfl) (by kernel_rfl) (by kernel_rfl) (by kernel_rfl) (fun _ _ _ h => h) (Or.inl ⟨by rfl, fun wS hSw => ?hyd4⟩) hS ?red4
      case hyd4 => (dsimp only at hSw; obtain ⟨hS1, hS2, hS3⟩ := hSw; go_simp; try with_reducible rfl)
      try simp only [Act.put, List.setIfInBounds_toArray, List.set_cons_zero, List.set_cons_succ]
      refine anyT_takeL (i := 5) (v := ?vd5) rfl (by kernel_rfl) (by kernel_rfl) (by kernel_rfl) (by kernel_rfl) (by kernel_rfl) (fun _ _ _ h => h) (Or.inl ⟨by rfl, fun wS hSw => ?hyd5⟩) hS ?red5
      case hyd5 => (dsimp only at hSw; obtain ⟨hS1, hS2, hS3⟩ := hSw; go_simp; try with_reducible rfl)
      try simp only [Act.put, List.setIfInBounds_toArray, List.set_cons_zero, List.set_cons_succ]
      refine anyT_takeL (i := 6) (v := undef) rfl (by kernel_rfl) (by kernel_rfl) (by kernel_rfl) (by kernel_rfl) (by kernel_rfl) (fun _ _ _ h => h) (Or.inr ⟨by rfl, rfl⟩) hS ?red6
      try simp only [Act.put, List.setIfInBounds_toArray, List.set_cons_zero, List.set_cons_succ]
      refine anyT_takeL (i := 7) (v := undef) rfl (by kernel_rfl) (by kernel_rfl) (by kernel_rfl) (by kernel_rfl) (by kernel_rfl) (fun _ _ _ h => h) (Or.inr ⟨by rfl, rfl⟩) hS ?red7
      try simp only [Act.put, List.setIfInBounds_toArray, List.set_cons_zero, List.set_cons_succ]
      refine anyT_takeL (i := 8) (v := undef) rfl (by kernel_rfl) (by kernel_rfl) (by kernel_rfl) (by kernel_rfl) (by kernel_rfl) (fun _ _ _ h => h) (Or.inr ⟨by rfl, rfl⟩) hS ?red8
      try simp only [Act.put, List.setIfInBounds_toArray, List.set_cons_zero, List.set_cons_succ]
      refine anyT_takeL (i := 9) (v := undef) rfl (by kernel_rfl) (by kernel_rfl) (by kernel_rfl) (by kernel_rfl) (by kernel_rfl) (fun _ _ _ h => h) (Or.inr ⟨by rfl, rfl⟩) hS ?red9
      try simp only [Act.put, List.setIfInBounds_toArray, List.set_cons_zero, List.set_cons_succ]
      refine anyT_takeL (i := 10) (v := undef) rfl (by kernel_rfl) (by kernel_rfl) (by kernel_rfl) (by kernel_rfl) (by kernel_rfl) (fun _ _ _ h => h) (Or.inr ⟨by rfl, rfl⟩) hS ?red10
      try simp only [Act.put, List.setIfInBounds_toArray, List.set_cons_zero, List.set_cons_succ]
      refine anyT_takeL (i := 11) (v := undef) rfl (by kernel_rfl) (by kernel_rfl) (by kernel_rfl) (by kernel_rfl) (by kernel_rfl) (fun _ _ _ h => h) (Or.inr ⟨by rfl, rfl⟩) hS ?red11
      try simp only [Act.put, List.setIfInBounds_toArray, List.set_cons_zero, List.set_cons_succ]
      refine anyT_takeL (i := 12) (v := undef) rfl (by kernel_rfl) (by kernel_rfl) (by kernel_rfl) (by kernel_rfl) (by kernel_rfl) (fun _ _ _ h => h) (Or.inr ⟨by rfl, rfl⟩) hS ?red12
      try simp only [Act.put, List.setIfInBounds_toArray, List.set_cons_zero, List.set_cons_succ]
      refine anyT_takeL (i := 13) (v := ?vd13) rfl (by kernel_rfl) (by kernel_rfl) (by kernel_rfl) (by kernel_rfl) (by kernel_rfl) (fun _ _ _ h => h) (Or.inl ⟨by rfl, fun wS hSw => ?hyd13⟩) hS ?red13
      case hyd13 => (dsimp only at hSw; obtain ⟨hS1, hS2, hS3⟩ := hSw; go_simp; try with_reducible rfl)
      try simp only [Act.put, List.setIfInBounds_toArray, List.set_cons_zero, List.set_cons_succ]
      refine anyT_takeL (i := 14) (v := ?vd14) rfl (by kernel_rfl) (by kernel_rfl) (by kernel_rfl) (by kernel_rfl) (by kernel_rfl) (fun _ _ _ h => h) (Or.inl ⟨by rfl, fun wS hSw => ?hyd14⟩) hS ?red14
      case hyd14 => (dsimp only at hSw; obtain ⟨hS1, hS2, hS3⟩ := hSw; go_simp; try with_reducible rfl)
      try simp only [Act.put, List.setIfInBounds_toArray, List.set_cons_zero, List.set_cons_succ]
      refine anyT_takeL (i := 15) (v := ?vd15) rfl (by kernel_rfl) (by kernel_rfl) (by kernel_rfl) (by kernel_rfl) (by kernel_rfl) (fun _ _ _ h => h) (Or.inl ⟨by rfl, fun wS hSw => ?hyd15⟩) hS ?red15
      case hyd15 => (dsimp only at hSw; obtain ⟨hS1, hS2, hS3⟩ := hSw; go_simp; try with_reducible rfl)
      try simp only [Act.put, List.setIfInBounds_toArray, List.set_cons_zero, List.set_cons_succ]
      refine anyT_takeL (i := 16) (v := ?vd16) rfl (by kernel_rfl) (by kernel_rfl) (by kernel_rfl) (by kernel_rfl) (by kernel_rfl) (fun _ _ _ h => h) (Or.inl ⟨by rfl, fun wS hSw => ?hyd16⟩) hS ?red16
      case hyd16 => (dsimp only at hSw; obtain ⟨hS1, hS2, hS3⟩ := hSw; go_simp; try with_reducible rfl)
      try simp only [Act.put, List.setIfInBounds_toArray, List.set_cons_zero, List.set_cons_succ]
      refine anyT_takeL (i := 17) (v := ?vd17) rfl (by kernel_rfl) (by kernel_rfl) (by kernel_rfl) (by kernel_rfl) (by kernel_rfl) (fun _ _ _ h => h) (Or.inl ⟨by rfl, fun wS hSw => ?hyd17⟩) hS ?red17
      case hyd17 => (dsimp only at hSw; obtain ⟨hS1, hS2, hS3⟩ := hSw; go_simp; try with_reducible rfl)
      try simp only [Act.put, List.setIfInBounds_toArray, List.set_cons_zero, List.set_cons_succ]
      refine anyT_takeL (i := 18) (v := ?vd18) rfl (by kernel_rfl) (by kernel_rfl) (by kernel_rfl) (by kernel_rfl) (by kernel_rfl) (fun _ _ _ h => h) (Or.inl ⟨by rfl, fun wS hSw => ?hyd18⟩) hS ?red18
      case hyd18 => (dsimp only at hSw; obtain ⟨hS1, hS2, hS3⟩ := hSw; go_simp; try with_reducible rfl)
      try simp only [Act.put, List.setIfInBounds_toArray, List.set_cons_zero, List.set_cons_succ]
      refine anyT_takeL (i := 19) (v := ?vd19) rfl (by kernel_rfl) (by kernel_rfl) (by kernel_rfl) (by kernel_rfl) (by kernel_rfl) (fun _ _ _ h => h) (Or.inl ⟨by rfl, fun wS hSw => ?hyd19⟩) hS ?red19
      case hyd19 => (dsimp only at hSw; obtain ⟨hS1, hS2, hS3⟩ := hSw; go_simp; try with_reducible rfl)
      try simp only [Act.put, List.setIfInBounds_toArray, List.set_cons_zero, List.set_cons_succ]
      refine anyT_takeL (i := 20) (v := ?vd20) rfl (by kernel_rfl) (by kernel_rfl) (by kernel_rfl) (by kernel_rfl) (by kernel_rfl) (fun _ _ _ h => h) (Or.inl ⟨by rfl, fun wS hSw => ?hyd20⟩) hS ?red20
      case hyd20 => (dsimp only at hSw; obtain ⟨hS1, hS2, hS3⟩ := hSw; go_simp; try with_reducible rfl)
      try simp only [Act.put, List.setIfInBounds_toArray, List.set_cons_zero, List.set_cons_succ]
      refine anyT_takeL (i := 21) (v := ?vd21) rfl (by kernel_rfl) (by kernel_rfl) (by kernel_rfl) (by kernel_rfl) (by kernel_rfl) (fun _ _ _ h => h) (Or.inl ⟨by rfl, fun wS hSw => ?hyd21⟩) hS ?red21
      case hyd21 => (dsimp only at hSw; obtain ⟨hS1, hS2, hS3⟩ := hSw; go_simp; try with_reducible rfl)
      try simp only [Act.put, List.setIfInBounds_toArray, List.set_cons_zero, List.set_cons_succ]
      refine anyT_takeL (i := 22) (v := ?vd22) rfl (by kernel_rfl) (by kernel_rfl) (by kernel_rfl) (by kernel_rfl) (by kernel_rfl) (fun _ _ _ h => h) (Or.inl ⟨by rfl, fun wS hSw => ?hyd22⟩) hS ?red22
      case hyd22 => (dsimp only at hSw; obtain ⟨hS1, hS2, hS3⟩ := hSw; go_simp; try with_reducible rfl)
      try simp only [Act.put, List.setIfInBounds_toArray, List.set_cons_zero, List.set_cons_succ]
      refine anyT_oneL (i := 23) rfl (by kernel_rfl) ?_
      intro K hK
      go_simp
      refine (newer66 o kl lb r.log m.index m.logTerm _ (show LogAt o kl V.drew lb r.log from HL.out) hel).mono ?_
      rintro e wc ⟨he, hbc⟩
      rw [HNW.out] at he
      subst he
      have hbc' : Below V.heap.size V wc := ⟨hbc.os, hbc.tape, hbc.output, hbc.size, hbc.block⟩
      have y3 := (hbc'.cell (p := ⟨b, 3, none⟩) hlt).trans d3
      have y4 := (hbc'.cell (p := ⟨b, 4, none⟩) hlt).trans d4
      have y8 := (hbc'.cell (p := ⟨b, 8, none⟩) hlt).trans d8
      have ym : ∀ i, wc.cell? ⟨w.heap.size, i, none⟩ = [Value.int .i64 m.kind, .int .i64 m.group, .int .i64 m.from_, .int .i64 m.to_, .int .i64 m.term, .int .i64 m.index, .int .i64 m.logTerm, .int .i64 m.commit, .bool m.ok, .slice A n c, .slice A2 n2 c2, .slice A3 n3 c3][i]? := fun i => (hbc'.cell (p := ⟨w.heap.size, i, none⟩) hml).trans (km i)
      have fc : ∀ i, wc.frozen? ⟨b, i, none⟩ = false := fun i => (hbc'.frozen (p := ⟨b, i, none⟩) hlt).trans (f i)
      have hltc : b < wc.heap.size := Nat.lt_of_lt_of_le hlt hbc'.size
      have hne : w.heap.size ≠ b := by
        intro hq
        have := hlt
        have h1 := HMB.out
        rw [hq] at h1
        obtain ⟨_, _, _, _, _, _, _, hb2, _⟩ := HRV.out
        exact Blk.ne_ h1 hb2 (by decide) rfl
      have HBC : Hid (Below w.heap.size w wc) := HBV.out.trans (hbc'.mono HBV.out.size)
      have HRC := Lib.hid (H.out.below HBC.out hw)
      clear hbc hbc'
      try dsimp only
      clear hS
      have hS : (fun w' : World => w'.cell? ⟨b, 3, none⟩ = some (.int .i64 r.vote) ∧ w'.cell? ⟨b, 4, none⟩ = some (.pointer (some ⟨lb, 0, none⟩)) ∧ (∀ i, w'.cell? ⟨w.heap.size, i, none⟩ = [Value.int .i64 m.kind, .int .i64 m.group, .int .i64 m.from_, .int .i64 m.to_, .int .i64 m.term, .int .i64 m.index, .int .i64 m.logTerm, .int .i64 m.commit, .bool m.ok, .slice A n c, .slice A2 n2 c2, .slice A3 n3 c3][i]?)) wc := ⟨y3, y4, ym⟩
      refine hK _ _ (.inr hS) ?_
      clear hK K
      try simp only [Act.put, List.setIfInBounds_toArray, List.set_cons_zero, List.set_cons_succ]
      refine anyT_takeL (i := 24) (v := ?vd24) rfl (by kernel_rfl) (by kernel_rfl) (by kernel_rfl) (by kernel_rfl) (by kernel_rfl) (fun _ _ _ h => h) (Or.inl ⟨by rfl, fun wS hSw => ?hyd24⟩) hS ?red24
      case hyd24 => (dsimp only at hSw; obtain ⟨hS1, hS2, hS3⟩ := hSw; go_simp; try with_reducible rfl)
      try simp only [Act.put, List.setIfInBounds_toArray, List.set_cons_zero, List.set_cons_succ]
      refine anyT_oneL (i := 25) rfl (by kernel_rfl) ?_
      intro K hK
      go_simp
      try dsimp only
      refine hK _ _ (.inl rfl) ?_
      clear hK K hS
      try simp only [Act.put, List.setIfInBounds_toArray, List.set_cons_zero, List.set_cons_succ]
      refine anyT_done (by kernel_rfl) ?_ _
      try clear hS
      -- END
      have hre : r.asked m = ({ r with vote := m.from_, elapsed := 0 } : RaftM).send { kind := 2, to_ := m.from_, ok := true } := by unfold RaftM.asked; rw [if_pos ⟨.inl HV0.out, HNW.out⟩]
      have HRE := Lib.hid hre
      clear hre
      go_wp2_with fail
      have g1 := HRC.out.field hk hkl (r' := { r with vote := m.from_ }) 3 (.int .i64 m.from_) (fun _ _ _ => rfl) rfl rfl rfl HRC.out.v6 HRC.out.o6
      have g2 := g1.1.field hk hkl (r' := { r with vote := m.from_, elapsed := 0 }) 8 (.int .i64 0) (fun _ _ _ => rfl) rfl rfl rfl HRC.out.v6 HRC.out.o6
      refine (send59 o kr kl b { r with vote := m.from_, elapsed := 0 } { kind := 2, to_ := m.from_, ok := true } 0 0 0 none 0 0 none 0 0 none 0 0 _ g2.1 (fun b hb => hw b (by simp at hb; have := HBC.out.size; omega)) hk hkl hlen SliceOf.nil_ SliceOf.nil_ SliceOf.nil_).mono ?_
      rintro e w1 ⟨⟨v1, rfl⟩, o1, h1, he1⟩
      go_wp2
      go_returns
      exact ⟨⟨_, rfl⟩, o1, by rw [HRE.out]; exact h1, ((Ext.of_below HBC.out hw).trans (g1.2.trans g2.2)).trans he1⟩
  · have hv0' : (r.vote == 0) = false := by simpa using hv0
    have HV0 := Lib.hid hv0
    clear hv0
    by_cases hvf : r.vote = m.from_
    · have hvf' : (r.vote == m.from_) = true := by simpa using hvf
      have HVF := Lib.hid hvf
      clear hvf
      cases hnw : r.log.newer m.index m.logTerm
      · have HNW := Lib.hid hnw
        clear hnw
        -- BLOCK b0
        have hS : (fun w' : World => w'.cell? ⟨b, 3, none⟩ = some (.int .i64 r.vote) ∧ w'.cell? ⟨b, 4, none⟩ = some (.pointer (some ⟨lb, 0, none⟩)) ∧ (∀ i, w'.cell? ⟨w.heap.size, i, none⟩ = [Value.int .i64 m.kind, .int .i64 m.group, .int .i64 m.from_, .int .i64 m.to_, .int .i64 m.term, .int .i64 m.index, .int .i64 m.logTerm, .int .i64 m.commit, .bool m.ok, .slice A n c, .slice A2 n2 c2, .slice A3 n3 c3][i]?)) V.drew := ⟨d3, d4, km⟩
        refine wp_region_T 25 (fun w' : World => w'.cell? ⟨b, 3, none⟩ = some (.int .i64 r.vote) ∧ w'.cell? ⟨b, 4, none⟩ = some (.pointer (some ⟨lb, 0, none⟩)) ∧ (∀ i, w'.cell? ⟨w.heap.size, i, none⟩ = [Value.int .i64 m.kind, .int .i64 m.group, .int .i64 m.from_, .int .i64 m.to_, .int .i64 m.term, .int .i64 m.index, .int .i64 m.logTerm, .int .i64 m.commit, .bool m.ok, .slice A n c, .slice A2 n2 c2, .slice A3 n3 c3][i]?)) (by kernel_rfl) ?_
        refine anyT_takeL (i := 0) (v := ?ve0) rfl (by kernel_rfl) (by kernel_rfl) (by kernel_rfl) (by kernel_rfl) (by kernel_rfl) (fun _ _ _ h => h) (Or.inl ⟨by rfl, fun wS hSw => ?hye0⟩) hS ?ree0
        case hye0 => (dsimp only at hSw; obtain ⟨hS1, hS2, hS3⟩ := hSw; go_simp; try with_reducible rfl)
        try simp only [Act.put, List.setIfInBounds_toArray, List.set_cons_zero, List.set_cons_succ]
        refine anyT_takeL (i := 1) (v := ?ve1) rfl (by kernel_rfl) (by kernel_rfl) (by kernel_rfl) (by kernel_rfl) (by kernel_rfl) (fun _ _ _ h => h) (Or.inl ⟨by rfl, fun wS hSw => ?hye1⟩) hS ?ree1
        case hye1 => (dsimp only at hSw; obtain ⟨hS1, hS2, hS3⟩ := hSw; go_simp; try with_reducible rfl)
        try simp only [Act.put, List.setIfInBounds_toArray, List.set_cons_zero, List.set_cons_succ]
        refine anyT_takeL (i := 2) (v := ?ve2) rfl (by kernel_rfl) (by kernel_rfl) (by kernel_rfl) (by kernel_rfl) (by kernel_rfl) (fun _ _ _ h => h) (Or.inl ⟨by rfl, fun wS hSw => ?hye2⟩) hS ?ree2
        case hye2 => (dsimp only at hSw; obtain ⟨hS1, hS2, hS3⟩ := hSw; go_simp; try with_reducible rfl)
        try simp only [Act.put, List.setIfInBounds_toArray, List.set_cons_zero, List.set_cons_succ]
        refine anyT_takeL (i := 3) (v := ?ve3) rfl (by kernel_rfl) (by kernel_rfl) (by kernel_rfl) (by kernel_rfl) (by kernel_rfl) (fun _ _ _ h => h) (Or.inl ⟨by rfl, fun wS hSw => ?hye3⟩) hS ?ree3
        case hye3 => (dsimp only at hSw; obtain ⟨hS1, hS2, hS3⟩ := hSw; go_simp; try with_reducible rfl)
        try simp only [Act.put, List.setIfInBounds_toArray, List.set_cons_zero, List.set_cons_succ]
        refine anyT_takeL (i := 4) (v := ?ve4) rfl (by kernel_rfl) (by kernel_rfl) (by kernel_rfl) (by kernel_rfl) (by kernel_rfl) (fun _ _ _ h => h) (Or.inl ⟨by rfl, fun wS hSw => ?hye4⟩) hS ?ree4
        case hye4 => (dsimp only at hSw; obtain ⟨hS1, hS2, hS3⟩ := hSw; go_simp; try with_reducible rfl)
        try simp only [Act.put, List.setIfInBounds_toArray, List.set_cons_zero, List.set_cons_succ]
        refine anyT_takeL (i := 5) (v := ?ve5) rfl (by kernel_rfl) (by kernel_rfl) (by kernel_rfl) (by kernel_rfl) (by kernel_rfl) (fun _ _ _ h => h) (Or.inl ⟨by rfl, fun wS hSw => ?hye5⟩) hS ?ree5
        case hye5 => (dsimp only at hSw; obtain ⟨hS1, hS2, hS3⟩ := hSw; go_simp; try with_reducible rfl)
        try simp only [Act.put, List.setIfInBounds_toArray, List.set_cons_zero, List.set_cons_succ]
        refine anyT_takeL (i := 6) (v := ?ve6) rfl (by kernel_rfl) (by kernel_rfl) (by kernel_rfl) (by kernel_rfl) (by kernel_rfl) (fun _ _ _ h => h) (Or.inl ⟨by rfl, fun wS hSw => ?hye6⟩) hS ?ree6
        case hye6 => (dsimp only at hSw; obtain ⟨hS1, hS2, hS3⟩ := hSw; go_simp; try with_reducible rfl)
        try simp only [Act.put, List.setIfInBounds_toArray, List.set_cons_zero, List.set_cons_succ]
        refine anyT_takeL (i := 7) (v := ?ve7) rfl (by kernel_rfl) (by kernel_rfl) (by kernel_rfl) (by kernel_rfl) (by kernel_rfl) (fun _ _ _ h => h) (Or.inl ⟨by rfl, fun wS hSw => ?hye7⟩) hS ?ree7
        case hye7 => (dsimp only at hSw; obtain ⟨hS1, hS2, hS3⟩ := hSw; go_simp; try with_reducible rfl)
        try simp only [Act.put, List.setIfInBounds_toArray, List.set_cons_zero, List.set_cons_succ]
        refine anyT_takeL (i := 8) (v := ?ve8) rfl (by kernel_rfl) (by kernel_rfl) (by kernel_rfl) (by kernel_rfl) (by kernel_rfl) (fun _ _ _ h => h) (Or.inl ⟨by rfl, fun wS hSw => ?hye8⟩) hS ?ree8
        case hye8 => (dsimp only at hSw; obtain ⟨hS1, hS2, hS3⟩ := hSw; go_simp; try with_reducible rfl)
        try simp only [Act.put, List.setIfInBounds_toArray, List.set_cons_zero, List.set_cons_succ]
        refine anyT_takeL (i := 9) (v := ?ve9) rfl (by kernel_rfl) (by kernel_rfl) (by kernel_rfl) (by kernel_rfl) (by kernel_rfl) (fun _ _ _ h => h) (Or.inl ⟨by rfl, fun wS hSw => ?hye9⟩) hS ?ree9
        case hye9 => (dsimp only at hSw; obtain ⟨hS1, hS2, hS3⟩ := hSw; go_simp; try with_reducible rfl)
        try simp only [Act.put, List.setIfInBounds_toArray, List.set_cons_zero, List.set_cons_succ]
        refine anyT_takeL (i := 10) (v := ?ve10) rfl (by kernel_rfl) (by kernel_rfl) (by kernel_rfl) (by kernel_rfl) (by kernel_rfl) (fun _ _ _ h => h) (Or.inl ⟨by rfl, fun wS hSw => ?hye10⟩) hS ?ree10
        case hye10 => (dsimp only at hSw; obtain ⟨hS1, hS2, hS3⟩ := hSw; go_simp; try with_reducible rfl)
        try simp only [Act.put, List.setIfInBounds_toArray, List.set_cons_zero, List.set_cons_succ]
        refine anyT_takeL (i := 11) (v := ?ve11) rfl (by kernel_rfl) (by kernel_rfl) (by kernel_rfl) (by kernel_rfl) (by kernel_rfl) (fun _ _ _ h => h) (Or.inl ⟨by rfl, fun wS hSw => ?hye11⟩) hS ?ree11
        case hye11 => (dsimp only at hSw; obtain ⟨hS1, hS2, hS3⟩ := hSw; go_simp; try with_reducible rfl)
        try simp only [Act.put, List.setIfInBounds_toArray, List.set_cons_zero, List.set_cons_succ]
        refine anyT_takeL (i := 12) (v := ?ve12) rfl (by kernel_rfl) (by kernel_rfl) (by kernel_rfl) (by kernel_rfl) (by kernel_rfl) (fun _ _ _ h => h) (Or.inl ⟨by rfl, fun wS hSw => ?hye12⟩) hS ?ree12
        case hye12 => (dsimp only at hSw; obtain ⟨hS1, hS2, hS3⟩ := hSw; go_simp; try with_reducible rfl)
        try simp only [Act.put, List.setIfInBounds_toArray, List.set_cons_zero, List.set_cons_succ]
        refine anyT_takeL (i := 13) (v := ?ve13) rfl (by kernel_rfl) (by kernel_rfl) (by kernel_rfl) (by kernel_rfl) (by kernel_rfl) (fun _ _ _ h => h) (Or.inl ⟨by rfl, fun wS hSw => ?hye13⟩) hS ?ree13
        case hye13 => (dsimp only at hSw; obtain ⟨hS1, hS2, hS3⟩ := hSw; go_simp; try with_reducible rfl)
        try simp only [Act.put, List.setIfInBounds_toArray, List.set_cons_zero, List.set_cons_succ]
        refine anyT_takeL (i := 14) (v := ?ve14) rfl (by kernel_rfl) (by kernel_rfl) (by kernel_rfl) (by kernel_rfl) (by kernel_rfl) (fun _ _ _ h => h) (Or.inl ⟨by rfl, fun wS hSw => ?hye14⟩) hS ?ree14
        case hye14 => (dsimp only at hSw; obtain ⟨hS1, hS2, hS3⟩ := hSw; go_simp; try with_reducible rfl)
        try simp only [Act.put, List.setIfInBounds_toArray, List.set_cons_zero, List.set_cons_succ]
        refine anyT_takeL (i := 15) (v := ?ve15) rfl (by kernel_rfl) (by kernel_rfl) (by kernel_rfl) (by kernel_rfl) (by kernel_rfl) (fun _ _ _ h => h) (Or.inl ⟨by rfl, fun wS hSw => ?hye15⟩) hS ?ree15
        case hye15 => (dsimp only at hSw; obtain ⟨hS1, hS2, hS3⟩ := hSw; go_simp; try with_reducible rfl)
        try simp only [Act.put, List.setIfInBounds_toArray, List.set_cons_zero, List.set_cons_succ]
        refine anyT_takeL (i := 16) (v := ?ve16) rfl (by kernel_rfl) (by kernel_rfl) (by kernel_rfl) (by kernel_rfl) (by kernel_rfl) (fun _ _ _ h => h) (Or.inl ⟨by rfl, fun wS hSw => ?hye16⟩) hS ?ree16
        case hye16 => (dsimp only at hSw; obtain ⟨hS1, hS2, hS3⟩ := hSw; go_simp; try with_reducible rfl)
        try simp only [Act.put, List.setIfInBounds_toArray, List.set_cons_zero, List.set_cons_succ]
        refine anyT_takeL (i := 17) (v := ?ve17) rfl (by kernel_rfl) (by kernel_rfl) (by kernel_rfl) (by kernel_rfl) (by kernel_rfl) (fun _ _ _ h => h) (Or.inl ⟨by rfl, fun wS hSw => ?hye17⟩) hS ?ree17
        case hye17 => (dsimp only at hSw; obtain ⟨hS1, hS2, hS3⟩ := hSw; go_simp; try with_reducible rfl)
        try simp only [Act.put, List.setIfInBounds_toArray, List.set_cons_zero, List.set_cons_succ]
        refine anyT_takeL (i := 18) (v := ?ve18) rfl (by kernel_rfl) (by kernel_rfl) (by kernel_rfl) (by kernel_rfl) (by kernel_rfl) (fun _ _ _ h => h) (Or.inl ⟨by rfl, fun wS hSw => ?hye18⟩) hS ?ree18
        case hye18 => (dsimp only at hSw; obtain ⟨hS1, hS2, hS3⟩ := hSw; go_simp; try with_reducible rfl)
        try simp only [Act.put, List.setIfInBounds_toArray, List.set_cons_zero, List.set_cons_succ]
        refine anyT_takeL (i := 19) (v := ?ve19) rfl (by kernel_rfl) (by kernel_rfl) (by kernel_rfl) (by kernel_rfl) (by kernel_rfl) (fun _ _ _ h => h) (Or.inl ⟨by rfl, fun wS hSw => ?hye19⟩) hS ?ree19
        case hye19 => (dsimp only at hSw; obtain ⟨hS1, hS2, hS3⟩ := hSw; go_simp; try with_reducible rfl)
        try simp only [Act.put, List.setIfInBounds_toArray, List.set_cons_zero, List.set_cons_succ]
        refine anyT_takeL (i := 20) (v := ?ve20) rfl (by kernel_rfl) (by kernel_rfl) (by kernel_rfl) (by kernel_rfl) (by kernel_rfl) (fun _ _ _ h => h) (Or.inl ⟨by rfl, fun wS hSw => ?hye20⟩) hS ?ree20
        case hye20 => (dsimp only at hSw; obtain ⟨hS1, hS2, hS3⟩ := hSw; go_simp; try with_reducible rfl)
        try simp only [Act.put, List.setIfInBounds_toArray, List.set_cons_zero, List.set_cons_succ]
        refine anyT_takeL (i := 21) (v := ?ve21) rfl (by kernel_rfl) (by kernel_rfl) (by kernel_rfl) (by kernel_rfl) (by kernel_rfl) (fun _ _ _ h => h) (Or.inl ⟨by rfl, fun wS hSw => ?hye21⟩) hS ?ree21
        case hye21 => (dsimp only at hSw; obtain ⟨hS1, hS2, hS3⟩ := hSw; go_simp; try with_reducible rfl)
        try simp only [Act.put, List.setIfInBounds_toArray, List.set_cons_zero, List.set_cons_succ]
        refine anyT_takeL (i := 22) (v := ?ve22) rfl (by kernel_rfl) (by kernel_rfl) (by kernel_rfl) (by kernel_rfl) (by kernel_rfl) (fun _ _ _ h => h) (Or.inl ⟨by rfl, fun wS hSw => ?hye22⟩) hS ?ree22
        case hye22 => (dsimp only at hSw; obtain ⟨hS1, hS2, hS3⟩ := hSw; go_simp; try with_reducible rfl)
        try simp only [Act.put, List.setIfInBounds_toArray, List.set_cons_zero, List.set_cons_succ]
        refine anyT_oneL (i := 23) rfl (by kernel_rfl) ?_
        intro K hK
        go_simp
        refine (newer66 o kl lb r.log m.index m.logTerm _ (show LogAt o kl V.drew lb r.log from HL.out) hel).mono ?_
        rintro e wc ⟨he, hbc⟩
        rw [HNW.out] at he
        subst he
        have hbc' : Below V.heap.size V wc := ⟨hbc.os, hbc.tape, hbc.output, hbc.size, hbc.block⟩
        have y3 := (hbc'.cell (p := ⟨b, 3, none⟩) hlt).trans d3
        have y4 := (hbc'.cell (p := ⟨b, 4, none⟩) hlt).trans d4
        have y8 := (hbc'.cell (p := ⟨b, 8, none⟩) hlt).trans d8
        have ym : ∀ i, wc.cell? ⟨w.heap.size, i, none⟩ = [Value.int .i64 m.kind, .int .i64 m.group, .int .i64 m.from_, .int .i64 m.to_, .int .i64 m.term, .int .i64 m.index, .int .i64 m.logTerm, .int .i64 m.commit, .bool m.ok, .slice A n c, .slice A2 n2 c2, .slice A3 n3 c3][i]? := fun i => (hbc'.cell (p := ⟨w.heap.size, i, none⟩) hml).trans (km i)
        have fc : ∀ i, wc.frozen? ⟨b, i, none⟩ = false := fun i => (hbc'.frozen (p := ⟨b, i, none⟩) hlt).trans (f i)
        have hltc : b < wc.heap.size := Nat.lt_of_lt_of_le hlt hbc'.size
        have hne : w.heap.size ≠ b := by
          intro hq
          have := hlt
          have h1 := HMB.out
          rw [hq] at h1
          obtain ⟨_, _, _, _, _, _, _, hb2, _⟩ := HRV.out
          exact Blk.ne_ h1 hb2 (by decide) rfl
        have HBC : Hid (Below w.heap.size w wc) := HBV.out.trans (hbc'.mono HBV.out.size)
        have HRC := Lib.hid (H.out.below HBC.out hw)
        clear hbc hbc'
        try dsimp only
        clear hS
        have hS : (fun w' : World => w'.cell? ⟨b, 3, none⟩ = some (.int .i64 r.vote) ∧ w'.cell? ⟨b, 4, none⟩ = some (.pointer (some ⟨lb, 0, none⟩)) ∧ (∀ i, w'.cell? ⟨w.heap.size, i, none⟩ = [Value.int .i64 m.kind, .int .i64 m.group, .int .i64 m.from_, .int .i64 m.to_, .int .i64 m.term, .int .i64 m.index, .int .i64 m.logTerm, .int .i64 m.commit, .bool m.ok, .slice A n c, .slice A2 n2 c2, .slice A3 n3 c3][i]?)) wc := ⟨y3, y4, ym⟩
        refine hK _ _ (.inr hS) ?_
        clear hK K
        try simp only [Act.put, List.setIfInBounds_toArray, List.set_cons_zero, List.set_cons_succ]
        refine anyT_takeL (i := 24) (v := ?ve24) rfl (by kernel_rfl) (by kernel_rfl) (by kernel_rfl) (by kernel_rfl) (by kernel_rfl) (fun _ _ _ h => h) (Or.inl ⟨by rfl, fun wS hSw => ?hye24⟩) hS ?ree24
        case hye24 => (dsimp only at hSw; obtain ⟨hS1, hS2, hS3⟩ := hSw; go_simp; try with_reducible rfl)
        try simp only [Act.put, List.setIfInBounds_toArray, List.set_cons_zero, List.set_cons_succ]
        refine anyT_oneL (i := 25) rfl (by kernel_rfl) ?_
        intro K hK
        go_simp
        try dsimp only
        refine hK _ _ (.inl rfl) ?_
        clear hK K hS
        try simp only [Act.put, List.setIfInBounds_toArray, List.set_cons_zero, List.set_cons_succ]
        refine anyT_done (by kernel_rfl) ?_ _
        try clear hS
        -- END
        have hre : r.asked m = r.send { kind := 2, to_ := m.from_ } := by unfold RaftM.asked; rw [if_neg (by rw [HNW.out]; rintro ⟨_, h⟩; cases h)]
        have HRE := Lib.hid hre
        clear hre
        go_wp2_with fail
        refine (send59 o kr kl b r { kind := 2, to_ := m.from_ } 0 0 0 none 0 0 none 0 0 none 0 0 _ HRC.out (fun b hb => hw b (Nat.le_trans HBC.out.size hb)) hk hkl hlen SliceOf.nil_ SliceOf.nil_ SliceOf.nil_).mono ?_
        rintro e w1 ⟨⟨v1, rfl⟩, o1, h1, he1⟩
        go_wp2
        go_returns
        exact ⟨⟨_, rfl⟩, o1, by rw [HRE.out]; exact h1, (Ext.of_below HBC.out hw).trans he1⟩
      · have HNW := Lib.hid hnw
        clear hnw
        -- BLOCK b1
        have hS : (fun w' : World => w'.cell? ⟨b, 3, none⟩ = some (.int .i64 r.vote) ∧ w'.cell? ⟨b, 4, none⟩ = some (.pointer (some ⟨lb, 0, none⟩)) ∧ (∀ i, w'.cell? ⟨w.heap.size, i, none⟩ = [Value.int .i64 m.kind, .int .i64 m.group, .int .i64 m.from_, .int .i64 m.to_, .int .i64 m.term, .int .i64 m.index, .int .i64 m.logTerm, .int .i64 m.commit, .bool m.ok, .slice A n c, .slice A2 n2 c2, .slice A3 n3 c3][i]?)) V.drew := ⟨d3, d4, km⟩
        refine wp_region_T 25 (fun w' : World => w'.cell? ⟨b, 3, none⟩ = some (.int .i64 r.vote) ∧ w'.cell? ⟨b, 4, none⟩ = some (.pointer (some ⟨lb, 0, none⟩)) ∧ (∀ i, w'.cell? ⟨w.heap.size, i, none⟩ = [Value.int .i64 m.kind, .int .i64 m.group, .int .i64 m.from_, .int .i64 m.to_, .int .i64 m.term, .int .i64 m.index, .int .i64 m.logTerm, .int .i64 m.commit, .bool m.ok, .slice A n c, .slice A2 n2 c2, .slice A3 n3 c3][i]?)) (by kernel_rfl) ?_
        refine anyT_takeL (i := 0) (v := ?vf0) rfl (by kernel_rfl) (by kernel_rfl) (by kernel_rfl) (by kernel_rfl) (by kernel_rfl) (fun _ _ _ h => h) (Or.inl ⟨by rfl, fun wS hSw => ?hyf0⟩) hS ?ref0
        case hyf0 => (dsimp only at hSw; obtain ⟨hS1, hS2, hS3⟩ := hSw; go_simp; try with_reducible rfl)
        try simp only [Act.put, List.setIfInBounds_toArray, List.set_cons_zero, List.set_cons_succ]
        refine anyT_takeL (i := 1) (v := ?vf1) rfl (by kernel_rfl) (by kernel_rfl) (by kernel_rfl) (by kernel_rfl) (by kernel_rfl) (fun _ _ _ h => h) (Or.inl ⟨by rfl, fun wS hSw => ?hyf1⟩) hS ?ref1
        case hyf1 => (dsimp only at hSw; obtain ⟨hS1, hS2, hS3⟩ := hSw; go_simp; try with_reducible rfl)
        try simp only [Act.put, List.setIfInBounds_toArray, List.set_cons_zero, List.set_cons_succ]
        refine anyT_takeL (i := 2) (v := ?vf2) rfl (by kernel_rfl) (by kernel_rfl) (by kernel_rfl) (by kernel_rfl) (by kernel_rfl) (fun _ _ _ h => h) (Or.inl ⟨by rfl, fun wS hSw => ?hyf2⟩) hS ?ref2
        case hyf2 => (dsimp only at hSw; obtain ⟨hS1, hS2, hS3⟩ := hSw; go_simp; try with_reducible rfl)
        try simp only [Act.put, List.setIfInBounds_toArray, List.set_cons_zero, List.set_cons_succ]
        refine anyT_takeL (i := 3) (v := ?vf3) rfl (by kernel_rfl) (by kernel_rfl) (by kernel_rfl) (by kernel_rfl) (by kernel_rfl) (fun _ _ _ h => h) (Or.inl ⟨by rfl, fun wS hSw => ?hyf3⟩) hS ?ref3
        case hyf3 => (dsimp only at hSw; obtain ⟨hS1, hS2, hS3⟩ := hSw; go_simp; try with_reducible rfl)
        try simp only [Act.put, List.setIfInBounds_toArray, List.set_cons_zero, List.set_cons_succ]
        refine anyT_takeL (i := 4) (v := ?vf4) rfl (by kernel_rfl) (by kernel_rfl) (by kernel_rfl) (by kernel_rfl) (by kernel_rfl) (fun _ _ _ h => h) (Or.inl ⟨by rfl, fun wS hSw => ?hyf4⟩) hS ?ref4
        case hyf4 => (dsimp only at hSw; obtain ⟨hS1, hS2, hS3⟩ := hSw; go_simp; try with_reducible rfl)
        try simp only [Act.put, List.setIfInBounds_toArray, List.set_cons_zero, List.set_cons_succ]
        refine anyT_takeL (i := 5) (v := ?vf5) rfl (by kernel_rfl) (by kernel_rfl) (by kernel_rfl) (by kernel_rfl) (by kernel_rfl) (fun _ _ _ h => h) (Or.inl ⟨by rfl, fun wS hSw => ?hyf5⟩) hS ?ref5
        case hyf5 => (dsimp only at hSw; obtain ⟨hS1, hS2, hS3⟩ := hSw; go_simp; try with_reducible rfl)
        try simp only [Act.put, List.setIfInBounds_toArray, List.set_cons_zero, List.set_cons_succ]
        refine anyT_takeL (i := 6) (v := ?vf6) rfl (by kernel_rfl) (by kernel_rfl) (by kernel_rfl) (by kernel_rfl) (by kernel_rfl) (fun _ _ _ h => h) (Or.inl ⟨by rfl, fun wS hSw => ?hyf6⟩) hS ?ref6
        case hyf6 => (dsimp only at hSw; obtain ⟨hS1, hS2, hS3⟩ := hSw; go_simp; try with_reducible rfl)
        try simp only [Act.put, List.setIfInBounds_toArray, List.set_cons_zero, List.set_cons_succ]
        refine anyT_takeL (i := 7) (v := ?vf7) rfl (by kernel_rfl) (by kernel_rfl) (by kernel_rfl) (by kernel_rfl) (by kernel_rfl) (fun _ _ _ h => h) (Or.inl ⟨by rfl, fun wS hSw => ?hyf7⟩) hS ?ref7
        case hyf7 => (dsimp only at hSw; obtain ⟨hS1, hS2, hS3⟩ := hSw; go_simp; try with_reducible rfl)
        try simp only [Act.put, List.setIfInBounds_toArray, List.set_cons_zero, List.set_cons_succ]
        refine anyT_takeL (i := 8) (v := ?vf8) rfl (by kernel_rfl) (by kernel_rfl) (by kernel_rfl) (by kernel_rfl) (by kernel_rfl) (fun _ _ _ h => h) (Or.inl ⟨by rfl, fun wS hSw => ?hyf8⟩) hS ?ref8
        case hyf8 => (dsimp only at hSw; obtain ⟨hS1, hS2, hS3⟩ := hSw; go_simp; try with_reducible rfl)
        try simp only [Act.put, List.setIfInBounds_toArray, List.set_cons_zero, List.set_cons_succ]
        refine anyT_takeL (i := 9) (v := ?vf9) rfl (by kernel_rfl) (by kernel_rfl) (by kernel_rfl) (by kernel_rfl) (by kernel_rfl) (fun _ _ _ h => h) (Or.inl ⟨by rfl, fun wS hSw => ?hyf9⟩) hS ?ref9
        case hyf9 => (dsimp only at hSw; obtain ⟨hS1, hS2, hS3⟩ := hSw; go_simp; try with_reducible rfl)
        try simp only [Act.put, List.setIfInBounds_toArray, List.set_cons_zero, List.set_cons_succ]
        refine anyT_takeL (i := 10) (v := ?vf10) rfl (by kernel_rfl) (by kernel_rfl) (by kernel_rfl) (by kernel_rfl) (by kernel_rfl) (fun _ _ _ h => h) (Or.inl ⟨by rfl, fun wS hSw => ?hyf10⟩) hS ?ref10
        case hyf10 => (dsimp only at hSw; obtain ⟨hS1, hS2, hS3⟩ := hSw; go_simp; try with_reducible rfl)
        try simp only [Act.put, List.setIfInBounds_toArray, List.set_cons_zero, List.set_cons_succ]
        refine anyT_takeL (i := 11) (v := ?vf11) rfl (by kernel_rfl) (by kernel_rfl) (by kernel_rfl) (by kernel_rfl) (by kernel_rfl) (fun _ _ _ h => h) (Or.inl ⟨by rfl, fun wS hSw => ?hyf11⟩) hS ?ref11
        case hyf11 => (dsimp only at hSw; obtain ⟨hS1, hS2, hS3⟩ := hSw; go_simp; try with_reducible rfl)
        try simp only [Act.put, List.setIfInBounds_toArray, List.set_cons_zero, List.set_cons_succ]
        refine anyT_takeL (i := 12) (v := ?vf12) rfl (by kernel_rfl) (by kernel_rfl) (by kernel_rfl) (by kernel_rfl) (by kernel_rfl) (fun _ _ _ h => h) (Or.inl ⟨by rfl, fun wS hSw => ?hyf12⟩) hS ?ref12
        case hyf12 => (dsimp only at hSw; obtain ⟨hS1, hS2, hS3⟩ := hSw; go_simp; try with_reducible rfl)
        try simp only [Act.put, List.setIfInBounds_toArray, List.set_cons_zero, List.set_cons_succ]
        refine anyT_takeL (i := 13) (v := ?vf13) rfl (by kernel_rfl) (by kernel_rfl) (by kernel_rfl) (by kernel_rfl) (by kernel_rfl) (fun _ _ _ h => h) (Or.inl ⟨by rfl, fun wS hSw => ?hyf13⟩) hS ?ref13
        case hyf13 => (dsimp only at hSw; obtain ⟨hS1, hS2, hS3⟩ := hSw; go_simp; try with_reducible rfl)
        try simp only [Act.put, List.setIfInBounds_toArray, List.set_cons_zero, List.set_cons_succ]
        refine anyT_takeL (i := 14) (v := ?vf14) rfl (by kernel_rfl) (by kernel_rfl) (by kernel_rfl) (by kernel_rfl) (by kernel_rfl) (fun _ _ _ h => h) (Or.inl ⟨by rfl, fun wS hSw => ?hyf14⟩) hS ?ref14
        case hyf14 => (dsimp only at hSw; obtain ⟨hS1, hS2, hS3⟩ := hSw; go_simp; try with_reducible rfl)
        try simp only [Act.put, List.setIfInBounds_toArray, List.set_cons_zero, List.set_cons_succ]
        refine anyT_takeL (i := 15) (v := ?vf15) rfl (by kernel_rfl) (by kernel_rfl) (by kernel_rfl) (by kernel_rfl) (by kernel_rfl) (fun _ _ _ h => h) (Or.inl ⟨by rfl, fun wS hSw => ?hyf15⟩) hS ?ref15
        case hyf15 => (dsimp only at hSw; obtain ⟨hS1, hS2, hS3⟩ := hSw; go_simp; try with_reducible rfl)
        try simp only [Act.put, List.setIfInBounds_toArray, List.set_cons_zero, List.set_cons_succ]
        refine anyT_takeL (i := 16) (v := ?vf16) rfl (by kernel_rfl) (by kernel_rfl) (by kernel_rfl) (by kernel_rfl) (by kernel_rfl) (fun _ _ _ h => h) (Or.inl ⟨by rfl, fun wS hSw => ?hyf16⟩) hS ?ref16
        case hyf16 => (dsimp only at hSw; obtain ⟨hS1, hS2, hS3⟩ := hSw; go_simp; try with_reducible rfl)
        try simp only [Act.put, List.setIfInBounds_toArray, List.set_cons_zero, List.set_cons_succ]
        refine anyT_takeL (i := 17) (v := ?vf17) rfl (by kernel_rfl) (by kernel_rfl) (by kernel_rfl) (by kernel_rfl) (by kernel_rfl) (fun _ _ _ h => h) (Or.inl ⟨by rfl, fun wS hSw => ?hyf17⟩) hS ?ref17
        case hyf17 => (dsimp only at hSw; obtain ⟨hS1, hS2, hS3⟩ := hSw; go_simp; try with_reducible rfl)
        try simp only [Act.put, List.setIfInBounds_toArray, List.set_cons_zero, List.set_cons_succ]
        refine anyT_takeL (i := 18) (v := ?vf18) rfl (by kernel_rfl) (by kernel_rfl) (by kernel_rfl) (by kernel_rfl) (by kernel_rfl) (fun _ _ _ h => h) (Or.inl ⟨by rfl, fun wS hSw => ?hyf18⟩) hS ?ref18
        case hyf18 => (dsimp only at hSw; obtain ⟨hS1, hS2, hS3⟩ := hSw; go_simp; try with_reducible rfl)
        try simp only [Act.put, List.setIfInBounds_toArray, List.set_cons_zero, List.set_cons_succ]
        refine anyT_takeL (i := 19) (v := ?vf19) rfl (by kernel_rfl) (by kernel_rfl) (by kernel_rfl) (by kernel_rfl) (by kernel_rfl) (fun _ _ _ h => h) (Or.inl ⟨by rfl, fun wS hSw => ?hyf19⟩) hS ?ref19
        case hyf19 => (dsimp only at hSw; obtain ⟨hS1, hS2, hS3⟩ := hSw; go_simp; try with_reducible rfl)
        try simp only [Act.put, List.setIfInBounds_toArray, List.set_cons_zero, List.set_cons_succ]
        refine anyT_takeL (i := 20) (v := ?vf20) rfl (by kernel_rfl) (by kernel_rfl) (by kernel_rfl) (by kernel_rfl) (by kernel_rfl) (fun _ _ _ h => h) (Or.inl ⟨by rfl, fun wS hSw => ?hyf20⟩) hS ?ref20
        case hyf20 => (dsimp only at hSw; obtain ⟨hS1, hS2, hS3⟩ := hSw; go_simp; try with_reducible rfl)
        try simp only [Act.put, List.setIfInBounds_toArray, List.set_cons_zero, List.set_cons_succ]
        refine anyT_takeL (i := 21) (v := ?vf21) rfl (by kernel_rfl) (by kernel_rfl) (by kernel_rfl) (by kernel_rfl) (by kernel_rfl) (fun _ _ _ h => h) (Or.inl ⟨by rfl, fun wS hSw => ?hyf21⟩) hS ?ref21
        case hyf21 => (dsimp only at hSw; obtain ⟨hS1, hS2, hS3⟩ := hSw; go_simp; try with_reducible rfl)
        try simp only [Act.put, List.setIfInBounds_toArray, List.set_cons_zero, List.set_cons_succ]
        refine anyT_takeL (i := 22) (v := ?vf22) rfl (by kernel_rfl) (by kernel_rfl) (by kernel_rfl) (by kernel_rfl) (by kernel_rfl) (fun _ _ _ h => h) (Or.inl ⟨by rfl, fun wS hSw => ?hyf22⟩) hS ?ref22
        case hyf22 => (dsimp only at hSw; obtain ⟨hS1, hS2, hS3⟩ := hSw; go_simp; try with_reducible rfl)
        try simp only [Act.put, List.setIfInBounds_toArray, List.set_cons_zero, List.set_cons_succ]
        refine anyT_oneL (i := 23) rfl (by kernel_rfl) ?_
        intro K hK
        go_simp
        refine (newer66 o kl lb r.log m.index m.logTerm _ (show LogAt o kl V.drew lb r.log from HL.out) hel).mono ?_
        rintro e wc ⟨he, hbc⟩
        rw [HNW.out] at he
        subst he
        have hbc' : Below V.heap.size V wc := ⟨hbc.os, hbc.tape, hbc.output, hbc.size, hbc.block⟩
        have y3 := (hbc'.cell (p := ⟨b, 3, none⟩) hlt).trans d3
        have y4 := (hbc'.cell (p := ⟨b, 4, none⟩) hlt).trans d4
        have y8 := (hbc'.cell (p := ⟨b, 8, none⟩) hlt).trans d8
        have ym : ∀ i, wc.cell? ⟨w.heap.size, i, none⟩ = [Value.int .i64 m.kind, .int .i64 m.group, .int .i64 m.from_, .int .i64 m.to_, .int .i64 m.term, .int .i64 m.index, .int .i64 m.logTerm, .int .i64 m.commit, .bool m.ok, .slice A n c, .slice A2 n2 c2, .slice A3 n3 c3][i]? := fun i => (hbc'.cell (p := ⟨w.heap.size, i, none⟩) hml).trans (km i)
        have fc : ∀ i, wc.frozen? ⟨b, i, none⟩ = false := fun i => (hbc'.frozen (p := ⟨b, i, none⟩) hlt).trans (f i)
        have hltc : b < wc.heap.size := Nat.lt_of_lt_of_le hlt hbc'.size
        have hne : w.heap.size ≠ b := by
          intro hq
          have := hlt
          have h1 := HMB.out
          rw [hq] at h1
          obtain ⟨_, _, _, _, _, _, _, hb2, _⟩ := HRV.out
          exact Blk.ne_ h1 hb2 (by decide) rfl
        have HBC : Hid (Below w.heap.size w wc) := HBV.out.trans (hbc'.mono HBV.out.size)
        have HRC := Lib.hid (H.out.below HBC.out hw)
        clear hbc hbc'
        try dsimp only
        clear hS
        have hS : (fun w' : World => w'.cell? ⟨b, 3, none⟩ = some (.int .i64 r.vote) ∧ w'.cell? ⟨b, 4, none⟩ = some (.pointer (some ⟨lb, 0, none⟩)) ∧ (∀ i, w'.cell? ⟨w.heap.size, i, none⟩ = [Value.int .i64 m.kind, .int .i64 m.group, .int .i64 m.from_, .int .i64 m.to_, .int .i64 m.term, .int .i64 m.index, .int .i64 m.logTerm, .int .i64 m.commit, .bool m.ok, .slice A n c, .slice A2 n2 c2, .slice A3 n3 c3][i]?)) wc := ⟨y3, y4, ym⟩
        refine hK _ _ (.inr hS) ?_
        clear hK K
        try simp only [Act.put, List.setIfInBounds_toArray, List.set_cons_zero, List.set_cons_succ]
        refine anyT_takeL (i := 24) (v := ?vf24) rfl (by kernel_rfl) (by kernel_rfl) (by kernel_rfl) (by kernel_rfl) (by kernel_rfl) (fun _ _ _ h => h) (Or.inl ⟨by rfl, fun wS hSw => ?hyf24⟩) hS ?ref24
        case hyf24 => (dsimp only at hSw; obtain ⟨hS1, hS2, hS3⟩ := hSw; go_simp; try with_reducible rfl)
        try simp only [Act.put, List.setIfInBounds_toArray, List.set_cons_zero, List.set_cons_succ]
        refine anyT_oneL (i := 25) rfl (by kernel_rfl) ?_
        intro K hK
        go_simp
        try dsimp only
        refine hK _ _ (.inl rfl) ?_
        clear hK K hS
        try simp only [Act.put, List.setIfInBounds_toArray, List.set_cons_zero, List.set_cons_succ]
        refine anyT_done (by kernel_rfl) ?_ _
        try clear hS
        -- END
        have hre : r.asked m = ({ r with vote := m.from_, elapsed := 0 } : RaftM).send { kind := 2, to_ := m.from_, ok := true } := by unfold RaftM.asked; rw [if_pos ⟨.inr HVF.out, HNW.out⟩]
        have HRE := Lib.hid hre
        clear hre
        go_wp2_with fail
        have g1 := HRC.out.field hk hkl (r' := { r with vote := m.from_ }) 3 (.int .i64 m.from_) (fun _ _ _ => rfl) rfl rfl rfl HRC.out.v6 HRC.out.o6
        have g2 := g1.1.field hk hkl (r' := { r with vote := m.from_, elapsed := 0 }) 8 (.int .i64 0) (fun _ _ _ => rfl) rfl rfl rfl HRC.out.v6 HRC.out.o6
        refine (send59 o kr kl b { r with vote := m.from_, elapsed := 0 } { kind := 2, to_ := m.from_, ok := true } 0 0 0 none 0 0 none 0 0 none 0 0 _ g2.1 (fun b hb => hw b (by simp at hb; have := HBC.out.size; omega)) hk hkl hlen SliceOf.nil_ SliceOf.nil_ SliceOf.nil_).mono ?_
        rintro e w1 ⟨⟨v1, rfl⟩, o1, h1, he1⟩
        go_wp2
        go_returns
        exact ⟨⟨_, rfl⟩, o1, by rw [HRE.out]; exact h1, ((Ext.of_below HBC.out hw).trans (g1.2.trans g2.2)).trans he1⟩
    · have hvf' : (r.vote == m.from_) = false := by simpa using hvf
      have HVF := Lib.hid hvf
      clear hvf
      have HRC := Lib.hid HRV.out.drew
      have HBC : Hid (Below w.heap.size w V.drew) := HBV.out.drew
      -- BLOCK c0
      have hS : (fun w' : World => w'.cell? ⟨b, 3, none⟩ = some (.int .i64 r.vote) ∧ w'.cell? ⟨b, 4, none⟩ = some (.pointer (some ⟨lb, 0, none⟩)) ∧ (∀ i, w'.cell? ⟨w.heap.size, i, none⟩ = [Value.int .i64 m.kind, .int .i64 m.group, .int .i64 m.from_, .int .i64 m.to_, .int .i64 m.term, .int .i64 m.index, .int .i64 m.logTerm, .int .i64 m.commit, .bool m.ok, .slice A n c, .slice A2 n2 c2, .slice A3 n3 c3][i]?)) V.drew := ⟨d3, d4, km⟩
      refine wp_region_T 25 (fun w' : World => w'.cell? ⟨b, 3, none⟩ = some (.int .i64 r.vote) ∧ w'.cell? ⟨b, 4, none⟩ = some (.pointer (some ⟨lb, 0, none⟩)) ∧ (∀ i, w'.cell? ⟨w.heap.size, i, none⟩ = [Value.int .i64 m.kind, .int .i64 m.group, .int .i64 m.from_, .int .i64 m.to_, .int .i64 m.term, .int .i64 m.index, .int .i64 m.logTerm, .int .i64 m.commit, .bool m.ok, .slice A n c, .slice A2 n2 c2, .slice A3 n3 c3][i]?)) (by kernel_rfl) ?_
      refine anyT_takeL (i := 0) (v := ?vg0) rfl (by kernel_rfl) (by kernel_rfl) (by kernel_rfl) (by kernel_rfl) (by kernel_rfl) (fun _ _ _ h => h) (Or.inl ⟨by rfl, fun wS hSw => ?hyg0⟩) hS ?reg0
      case hyg0 => (dsimp only at hSw; obtain ⟨hS1, hS2, hS3⟩ := hSw; go_simp; try with_reducible rfl)
      try simp only [Act.put, List.setIfInBounds_toArray, List.set_cons_zero, List.set_cons_succ]
      refine anyT_takeL (i := 1) (v := ?vg1) rfl (by kernel_rfl) (by kernel_rfl) (by kernel_rfl) (by kernel_rfl) (by kernel_rfl) (fun _ _ _ h => h) (Or.inl ⟨by rfl, fun wS hSw => ?hyg1⟩) hS ?reg1
      case hyg1 => (dsimp only at hSw; obtain ⟨hS1, hS2, hS3⟩ := hSw; go_simp; try with_reducible rfl)
      try simp only [Act.put, List.setIfInBounds_toArray, List.set_cons_zero, List.set_cons_succ]
      refine anyT_takeL (i := 2) (v := ?vg2) rfl (by kernel_rfl) (by kernel_rfl) (by kernel_rfl) (by kernel_rfl) (by kernel_rfl) (fun _ _ _ h => h) (Or.inl ⟨by rfl, fun wS hSw => ?hyg2⟩) hS ?reg2
      case hyg2 => (dsimp only at hSw; obtain ⟨hS1, hS2, hS3⟩ := hSw; go_simp; try with_reducible rfl)
      try simp only [Act.put, List.setIfInBounds_toArray, List.set_cons_zero, List.set_cons_succ]
      refine anyT_takeL (i := 3) (v := ?vg3) rfl (by kernel_rfl) (by kernel_rfl) (by kernel_rfl) (by kernel_rfl) (by kernel_rfl) (fun _ _ _ h => h) (Or.inl ⟨by rfl, fun wS hSw => ?hyg3⟩) hS ?reg3
      case hyg3 => (dsimp only at hSw; obtain ⟨hS1, hS2, hS3⟩ := hSw; go_simp; try with_reducible rfl)
      try simp only [Act.put, List.setIfInBounds_toArray, List.set_cons_zero, List.set_cons_succ]
      refine anyT_takeL (i := 4) (v := ?vg4) rfl (by kernel_rfl) (by kernel_rfl) (by kernel_rfl) (by kernel_rfl) (by kernel_rfl) (fun _ _ _ h => h) (Or.inl ⟨by rfl, fun wS hSw => ?hyg4⟩) hS ?reg4
      case hyg4 => (dsimp only at hSw; obtain ⟨hS1, hS2, hS3⟩ := hSw; go_simp; try with_reducible rfl)
      try simp only [Act.put, List.setIfInBounds_toArray, List.set_cons_zero, List.set_cons_succ]
      refine anyT_takeL (i := 5) (v := ?vg5) rfl (by kernel_rfl) (by kernel_rfl) (by kernel_rfl) (by kernel_rfl) (by kernel_rfl) (fun _ _ _ h => h) (Or.inl ⟨by rfl, fun wS hSw => ?hyg5⟩) hS ?reg5
      case hyg5 => (dsimp only at hSw; obtain ⟨hS1, hS2, hS3⟩ := hSw; go_simp; try with_reducible rfl)
      try simp only [Act.put, List.setIfInBounds_toArray, List.set_cons_zero, List.set_cons_succ]
      refine anyT_takeL (i := 6) (v := ?vg6) rfl (by kernel_rfl) (by kernel_rfl) (by kernel_rfl) (by kernel_rfl) (by kernel_rfl) (fun _ _ _ h => h) (Or.inl ⟨by rfl, fun wS hSw => ?hyg6⟩) hS ?reg6
      case hyg6 => (dsimp only at hSw; obtain ⟨hS1, hS2, hS3⟩ := hSw; go_simp; try with_reducible rfl)
      try simp only [Act.put, List.setIfInBounds_toArray, List.set_cons_zero, List.set_cons_succ]
      refine anyT_takeL (i := 7) (v := ?vg7) rfl (by kernel_rfl) (by kernel_rfl) (by kernel_rfl) (by kernel_rfl) (by kernel_rfl) (fun _ _ _ h => h) (Or.inl ⟨by rfl, fun wS hSw => ?hyg7⟩) hS ?reg7
      case hyg7 => (dsimp only at hSw; obtain ⟨hS1, hS2, hS3⟩ := hSw; go_simp; try with_reducible rfl)
      try simp only [Act.put, List.setIfInBounds_toArray, List.set_cons_zero, List.set_cons_succ]
      refine anyT_takeL (i := 8) (v := ?vg8) rfl (by kernel_rfl) (by kernel_rfl) (by kernel_rfl) (by kernel_rfl) (by kernel_rfl) (fun _ _ _ h => h) (Or.inl ⟨by rfl, fun wS hSw => ?hyg8⟩) hS ?reg8
      case hyg8 => (dsimp only at hSw; obtain ⟨hS1, hS2, hS3⟩ := hSw; go_simp; try with_reducible rfl)
      try simp only [Act.put, List.setIfInBounds_toArray, List.set_cons_zero, List.set_cons_succ]
      refine anyT_takeL (i := 9) (v := ?vg9) rfl (by kernel_rfl) (by kernel_rfl) (by kernel_rfl) (by kernel_rfl) (by kernel_rfl) (fun _ _ _ h => h) (Or.inl ⟨by rfl, fun wS hSw => ?hyg9⟩) hS ?reg9
      case hyg9 => (dsimp only at hSw; obtain ⟨hS1, hS2, hS3⟩ := hSw; go_simp; try with_reducible rfl)
      try simp only [Act.put, List.setIfInBounds_toArray, List.set_cons_zero, List.set_cons_succ]
      refine anyT_takeL (i := 10) (v := ?vg10) rfl (by kernel_rfl) (by kernel_rfl) (by kernel_rfl) (by kernel_rfl) (by kernel_rfl) (fun _ _ _ h => h) (Or.inl ⟨by rfl, fun wS hSw => ?hyg10⟩) hS ?reg10
      case hyg10 => (dsimp only at hSw; obtain ⟨hS1, hS2, hS3⟩ := hSw; go_simp; try with_reducible rfl)
      try simp only [Act.put, List.setIfInBounds_toArray, List.set_cons_zero, List.set_cons_succ]
      refine anyT_takeL (i := 11) (v := ?vg11) rfl (by kernel_rfl) (by kernel_rfl) (by kernel_rfl) (by kernel_rfl) (by kernel_rfl) (fun _ _ _ h => h) (Or.inl ⟨by rfl, fun wS hSw => ?hyg11⟩) hS ?reg11
      case hyg11 => (dsimp only at hSw; obtain ⟨hS1, hS2, hS3⟩ := hSw; go_simp; try with_reducible rfl)
      try simp only [Act.put, List.setIfInBounds_toArray, List.set_cons_zero, List.set_cons_succ]
      refine anyT_takeL (i := 12) (v := ?vg12) rfl (by kernel_rfl) (by kernel_rfl) (by kernel_rfl) (by kernel_rfl) (by kernel_rfl) (fun _ _ _ h => h) (Or.inl ⟨by rfl, fun wS hSw => ?hyg12⟩) hS ?reg12
      case hyg12 => (dsimp only at hSw; obtain ⟨hS1, hS2, hS3⟩ := hSw; go_simp; try with_reducible rfl)
      try simp only [Act.put, List.setIfInBounds_toArray, List.set_cons_zero, List.set_cons_succ]
      refine anyT_takeL (i := 13) (v := ?vg13) rfl (by kernel_rfl) (by kernel_rfl) (by kernel_rfl) (by kernel_rfl) (by kernel_rfl) (fun _ _ _ h => h) (Or.inl ⟨by rfl, fun wS hSw => ?hyg13⟩) hS ?reg13
      case hyg13 => (dsimp only at hSw; obtain ⟨hS1, hS2, hS3⟩ := hSw; go_simp; try with_reducible rfl)
      try simp only [Act.put, List.setIfInBounds_toArray, List.set_cons_zero, List.set_cons_succ]
      refine anyT_takeL (i := 14) (v := ?vg14) rfl (by kernel_rfl) (by kernel_rfl) (by kernel_rfl) (by kernel_rfl) (by kernel_rfl) (fun _ _ _ h => h) (Or.inl ⟨by rfl, fun wS hSw => ?hyg14⟩) hS ?reg14
      case hyg14 => (dsimp only at hSw; obtain ⟨hS1, hS2, hS3⟩ := hSw; go_simp; try with_reducible rfl)
      try simp only [Act.put, List.setIfInBounds_toArray, List.set_cons_zero, List.set_cons_succ]
      refine anyT_takeL (i := 15) (v := undef) rfl (by kernel_rfl) (by kernel_rfl) (by kernel_rfl) (by kernel_rfl) (by kernel_rfl) (fun _ _ _ h => h) (Or.inr ⟨by rfl, rfl⟩) hS ?reg15
      try simp only [Act.put, List.setIfInBounds_toArray, List.set_cons_zero, List.set_cons_succ]
      refine anyT_takeL (i := 16) (v := undef) rfl (by kernel_rfl) (by kernel_rfl) (by kernel_rfl) (by kernel_rfl) (by kernel_rfl) (fun _ _ _ h => h) (Or.inr ⟨by rfl, rfl⟩) hS ?reg16
      try simp only [Act.put, List.setIfInBounds_toArray, List.set_cons_zero, List.set_cons_succ]
      refine anyT_takeL (i := 17) (v := undef) rfl (by kernel_rfl) (by kernel_rfl) (by kernel_rfl) (by kernel_rfl) (by kernel_rfl) (fun _ _ _ h => h) (Or.inr ⟨by rfl, rfl⟩) hS ?reg17
      try simp only [Act.put, List.setIfInBounds_toArray, List.set_cons_zero, List.set_cons_succ]
      refine anyT_takeL (i := 18) (v := undef) rfl (by kernel_rfl) (by kernel_rfl) (by kernel_rfl) (by kernel_rfl) (by kernel_rfl) (fun _ _ _ h => h) (Or.inr ⟨by rfl, rfl⟩) hS ?reg18
      try simp only [Act.put, List.setIfInBounds_toArray, List.set_cons_zero, List.set_cons_succ]
      refine anyT_takeL (i := 19) (v := undef) rfl (by kernel_rfl) (by kernel_rfl) (by kernel_rfl) (by kernel_rfl) (by kernel_rfl) (fun _ _ _ h => h) (Or.inr ⟨by rfl, rfl⟩) hS ?reg19
      try simp only [Act.put, List.setIfInBounds_toArray, List.set_cons_zero, List.set_cons_succ]
      refine anyT_takeL (i := 20) (v := undef) rfl (by kernel_rfl) (by kernel_rfl) (by kernel_rfl) (by kernel_rfl) (by kernel_rfl) (fun _ _ _ h => h) (Or.inr ⟨by rfl, rfl⟩) hS ?reg20
      try simp only [Act.put, List.setIfInBounds_toArray, List.set_cons_zero, List.set_cons_succ]
      refine anyT_takeL (i := 21) (v := undef) rfl (by kernel_rfl) (by kernel_rfl) (by kernel_rfl) (by kernel_rfl) (by kernel_rfl) (fun _ _ _ h => h) (Or.inr ⟨by rfl, rfl⟩) hS ?reg21
      try simp only [Act.put, List.setIfInBounds_toArray, List.set_cons_zero, List.set_cons_succ]
      refine anyT_takeL (i := 22) (v := undef) rfl (by kernel_rfl) (by kernel_rfl) (by kernel_rfl) (by kernel_rfl) (by kernel_rfl) (fun _ _ _ h => h) (Or.inr ⟨by rfl, rfl⟩) hS ?reg22
      try simp only [Act.put, List.setIfInBounds_toArray, List.set_cons_zero, List.set_cons_succ]
      refine anyT_takeL (i := 23) (v := undef) rfl (by kernel_rfl) (by kernel_rfl) (by kernel_rfl) (by kernel_rfl) (by kernel_rfl) (fun _ _ _ h => h) (Or.inr ⟨by rfl, rfl⟩) hS ?reg23
      try simp only [Act.put, List.setIfInBounds_toArray, List.set_cons_zero, List.set_cons_succ]
      refine anyT_takeL (i := 24) (v := ?vg24) rfl (by kernel_rfl) (by kernel_rfl) (by kernel_rfl) (by kernel_rfl) (by kernel_rfl) (fun _ _ _ h => h) (Or.inl ⟨by rfl, fun wS hSw => ?hyg24⟩) hS ?reg24
      case hyg24 => (dsimp only at hSw; obtain ⟨hS1, hS2, hS3⟩ := hSw; go_simp; try with_reducible rfl)
      try simp only [Act.put, List.setIfInBounds_toArray, List.set_cons_zero, List.set_cons_succ]
      refine anyT_oneL (i := 25) rfl (by kernel_rfl) ?_
      intro K hK
      go_simp
      try dsimp only
      refine hK _ _ (.inl rfl) ?_
      clear hK K hS
      try simp only [Act.put, List.setIfInBounds_toArray, List.set_cons_zero, List.set_cons_succ]
      refine anyT_done (by kernel_rfl) ?_ _
      try clear hS
      -- END
      have hre : r.asked m = r.send { kind := 2, to_ := m.from_ } := by unfold RaftM.asked; rw [if_neg (by rintro ⟨h | h, _⟩; exact HV0.out h; exact HVF.out h)]
      have HRE := Lib.hid hre
      clear hre
      go_wp2_with fail
      refine (send59 o kr kl b r { kind := 2, to_ := m.from_ } 0 0 0 none 0 0 none 0 0 none 0 0 _ HRC.out (fun b hb => hw b (Nat.le_trans HBC.out.size hb)) hk hkl hlen SliceOf.nil_ SliceOf.nil_ SliceOf.nil_).mono ?_
      rintro e w1 ⟨⟨v1, rfl⟩, o1, h1, he1⟩
      go_wp2
      go_returns
      exact ⟨⟨_, rfl⟩, o1, by rw [HRE.out]; exact h1, (Ext.of_below HBC.out hw).trans he1⟩
end Go.Proofs.Ytibkmhacpodceaa
