/- Walks: install. -/
import Derived.Test.YtibkmhacpodceaaW30
namespace Go.Proofs.Ytibkmhacpodceaa
open Go.RowKit

theorem reset_keepL {L : LogM} {i t : Int} {m : List Int} (h : (L.reset i t m).1 ≠ 0) : (L.reset i t m).2 = L := by
  unfold LogM.reset at h ⊢
  split
  · rfl
  · rename_i h1
    rw [if_neg h1] at h
    split
    · rfl
    · rename_i h2
      rw [if_neg h2] at h
      exact absurd rfl h

set_option maxRecDepth 100000 in
set_option maxHeartbeats 8000000 in
theorem install43 (o : Own) (kr kl : Nat) (b : Nat) (r : RaftM) (m : Msg) (A n c A2 n2 c2 A3 n3 c3) (w : World) (h : RaftAt o kr kl w b r) (hok : r.log.Ok) (hlen : r.out.length ≤ 50000) (hi0 : 0 ≤ m.index) (hi1 : m.index ≤ 60000) (hml5 : m.members.length ≤ 30000) (hdl : m.data.length ≤ 30000)
    (hI : IntsAt (Of o 0) w (.slice A2 n2 c2) m.members) (hD : BytesAt (Of o 0) w (.slice A3 n3 c3) m.data) (hw : Wf o w) (hk : kr ≠ 0) (hkl : kr ≠ kl) (hl0 : kl ≠ 0) :
    Calls Try.prog 43 #[.pointer (some ⟨b, 0, none⟩), .agg #[.int .i64 m.kind, .int .i64 m.group, .int .i64 m.from_, .int .i64 m.to_, .int .i64 m.term, .int .i64 m.index, .int .i64 m.logTerm, .int .i64 m.commit, .bool m.ok, .slice A n c, .slice A2 n2 c2, .slice A3 n3 c3]] w
      (WantIs o kr kl b (r.install m) w) := by
  have H := Lib.hid h
  have HOK := Lib.hid hok
  have HI := Lib.hid hI
  have HD := Lib.hid hD
  clear h hok hI hD
  go_enter Try.func43, Try.ntmps43
  have hbA : Below w.heap.size w (w.alloc (.cells (msgCells m (.slice A n c) (.slice A2 n2 c2) (.slice A3 n3 c3)).toArray 48)) := (Below.refl _ _).alloc (Nat.le_refl _) _
  have HBA := Lib.hid hbA
  have HB0 := Lib.hid (Blk.new w 48 (msgCells m (.slice A n c) (.slice A2 n2 c2) (.slice A3 n3 c3)))
  clear hbA
  go_wp2_with fail
  refine (hear71 o kr kl b r m.from_ _ (H.out.below HBA.out hw) hk hkl).mono ?_
  rintro e w1 (⟨hr3, rfl, hx⟩ | ⟨hr3, rfl, hR1, hE1⟩)
  · obtain rfl := hx.symm
    have happ : r.install m = r := by unfold RaftM.install; rw [if_pos hr3]
    have HAPP := Lib.hid happ
    clear hx happ hr3
    go_wp2
    go_returns
    exact ⟨⟨_, rfl⟩, o, by rw [HAPP.out]; exact H.out.below HBA.out hw, Ext.of_below HBA.out hw⟩
  · have happ : r.install m = if r.log.commit < m.index then (r.hear m.from_).installed m (r.log.reset m.index m.logTerm m.members) else (r.hear m.from_).send { kind := 4, to_ := m.from_, ok := true, index := r.log.commit } := by unfold RaftM.install; rw [if_neg hr3]
    have HAPP := Lib.hid happ
    have hpo : o w.heap.size = 0 := hw _ (Nat.le_refl _)
    have HB1 := Lib.hid (hE1.blk HB0.out (by rw [hpo]; simpa using hk.symm))
    have HR1 := Lib.hid hR1
    have HE1 : Hid (Ext [kr] o o w w1) := (Ext.of_below HBA.out hw).trans hE1
    have HIN : Hid (IntsAt (Of o 0) w1 (.slice A2 n2 c2) m.members) := IntsAt.stays HI.out (HE1.out.stays (by simpa using hk.symm))
    have HDN : Hid (BytesAt (Of o 0) w1 (.slice A3 n3 c3) m.data) := BytesAt.stays HD.out (HE1.out.stays (by simpa using hk.symm))
    have HW1 : Hid (Wf o w1) := HE1.out.wf hw
    obtain ⟨lb, As, ns, cs, Ao, no, co, ⟨d0, d1, d2, d3, d4, d5, d6, d7, d8, d27, f, hlt⟩, ho, hL, _⟩ := hR1.open_
    have HL : Hid (LogAt o kl w1 lb r.log) := hL
    have hlo : o lb = kl := by
      obtain ⟨_, _, _, _, _, _, _, h9, _⟩ := hL
      exact h9
    have HLO := Lib.hid hlo
    have km := HB1.out.cells
    unfold msgCells at km
    have hml := HB1.out.lt
    have HPO := Lib.hid hpo
    clear happ hr3 hR1 hE1 hL hpo hlo HB0 d0 d1 d2 d3 d5 d6 d7 d8 d27
    go_wp2_with fail
    refine (commit19 o kl lb r.log _ HL.out).mono ?_
    rintro e w' ⟨rfl, hx⟩
    obtain rfl := hx.symm
    clear hx
    by_cases hlt2 : r.log.commit < m.index
    · have HLT := Lib.hid hlt2
      go_wp2
      -- BLOCK reset
      have hS : (fun w' : World => w'.cell? ⟨b, 4, none⟩ = some (.pointer (some ⟨lb, 0, none⟩)) ∧ (∀ i, w'.cell? ⟨w.heap.size, i, none⟩ = [Value.int .i64 m.kind, .int .i64 m.group, .int .i64 m.from_, .int .i64 m.to_, .int .i64 m.term, .int .i64 m.index, .int .i64 m.logTerm, .int .i64 m.commit, .bool m.ok, .slice A n c, .slice A2 n2 c2, .slice A3 n3 c3][i]?)) w1.drew := ⟨d4, km⟩
      refine wp_region_T 12 (fun w' : World => w'.cell? ⟨b, 4, none⟩ = some (.pointer (some ⟨lb, 0, none⟩)) ∧ (∀ i, w'.cell? ⟨w.heap.size, i, none⟩ = [Value.int .i64 m.kind, .int .i64 m.group, .int .i64 m.from_, .int .i64 m.to_, .int .i64 m.term, .int .i64 m.index, .int .i64 m.logTerm, .int .i64 m.commit, .bool m.ok, .slice A n c, .slice A2 n2 c2, .slice A3 n3 c3][i]?)) (by kernel_rfl) ?_
      refine anyT_takeL (i := 0) (v := ?vr0) rfl (by kernel_rfl) (by kernel_rfl) (by kernel_rfl) (by kernel_rfl) (by kernel_rfl) (fun _ _ _ h => h) (Or.inl ⟨by rfl, fun wS hSw => ?hyr0⟩) hS ?rer0
      case hyr0 => (dsimp only at hSw; obtain ⟨hS1, hS2⟩ := hSw; go_simp; try with_reducible rfl)
      try simp only [Act.put, List.setIfInBounds_toArray, List.set_cons_zero, List.set_cons_succ]
      refine anyT_takeL (i := 1) (v := ?vr1) rfl (by kernel_rfl) (by kernel_rfl) (by kernel_rfl) (by kernel_rfl) (by kernel_rfl) (fun _ _ _ h => h) (Or.inl ⟨by rfl, fun wS hSw => ?hyr1⟩) hS ?rer1
      case hyr1 => (dsimp only at hSw; obtain ⟨hS1, hS2⟩ := hSw; go_simp; try with_reducible rfl)
      try simp only [Act.put, List.setIfInBounds_toArray, List.set_cons_zero, List.set_cons_succ]
      refine anyT_takeL (i := 2) (v := ?vr2) rfl (by kernel_rfl) (by kernel_rfl) (by kernel_rfl) (by kernel_rfl) (by kernel_rfl) (fun _ _ _ h => h) (Or.inl ⟨by rfl, fun wS hSw => ?hyr2⟩) hS ?rer2
      case hyr2 => (dsimp only at hSw; obtain ⟨hS1, hS2⟩ := hSw; go_simp; try with_reducible rfl)
      try simp only [Act.put, List.setIfInBounds_toArray, List.set_cons_zero, List.set_cons_succ]
      refine anyT_takeL (i := 3) (v := ?vr3) rfl (by kernel_rfl) (by kernel_rfl) (by kernel_rfl) (by kernel_rfl) (by kernel_rfl) (fun _ _ _ h => h) (Or.inl ⟨by rfl, fun wS hSw => ?hyr3⟩) hS ?rer3
      case hyr3 => (dsimp only at hSw; obtain ⟨hS1, hS2⟩ := hSw; go_simp; try with_reducible rfl)
      try simp only [Act.put, List.setIfInBounds_toArray, List.set_cons_zero, List.set_cons_succ]
      refine anyT_takeL (i := 4) (v := ?vr4) rfl (by kernel_rfl) (by kernel_rfl) (by kernel_rfl) (by kernel_rfl) (by kernel_rfl) (fun _ _ _ h => h) (Or.inl ⟨by rfl, fun wS hSw => ?hyr4⟩) hS ?rer4
      case hyr4 => (dsimp only at hSw; obtain ⟨hS1, hS2⟩ := hSw; go_simp; try with_reducible rfl)
      try simp only [Act.put, List.setIfInBounds_toArray, List.set_cons_zero, List.set_cons_succ]
      refine anyT_takeL (i := 5) (v := ?vr5) rfl (by kernel_rfl) (by kernel_rfl) (by kernel_rfl) (by kernel_rfl) (by kernel_rfl) (fun _ _ _ h => h) (Or.inl ⟨by rfl, fun wS hSw => ?hyr5⟩) hS ?rer5
      case hyr5 => (dsimp only at hSw; obtain ⟨hS1, hS2⟩ := hSw; go_simp; try with_reducible rfl)
      try simp only [Act.put, List.setIfInBounds_toArray, List.set_cons_zero, List.set_cons_succ]
      refine anyT_takeL (i := 6) (v := ?vr6) rfl (by kernel_rfl) (by kernel_rfl) (by kernel_rfl) (by kernel_rfl) (by kernel_rfl) (fun _ _ _ h => h) (Or.inl ⟨by rfl, fun wS hSw => ?hyr6⟩) hS ?rer6
      case hyr6 => (dsimp only at hSw; obtain ⟨hS1, hS2⟩ := hSw; go_simp; try with_reducible rfl)
      try simp only [Act.put, List.setIfInBounds_toArray, List.set_cons_zero, List.set_cons_succ]
      refine anyT_takeL (i := 7) (v := ?vr7) rfl (by kernel_rfl) (by kernel_rfl) (by kernel_rfl) (by kernel_rfl) (by kernel_rfl) (fun _ _ _ h => h) (Or.inl ⟨by rfl, fun wS hSw => ?hyr7⟩) hS ?rer7
      case hyr7 => (dsimp only at hSw; obtain ⟨hS1, hS2⟩ := hSw; go_simp; try with_reducible rfl)
      try simp only [Act.put, List.setIfInBounds_toArray, List.set_cons_zero, List.set_cons_succ]
      refine anyT_takeL (i := 8) (v := ?vr8) rfl (by kernel_rfl) (by kernel_rfl) (by kernel_rfl) (by kernel_rfl) (by kernel_rfl) (fun _ _ _ h => h) (Or.inl ⟨by rfl, fun wS hSw => ?hyr8⟩) hS ?rer8
      case hyr8 => (dsimp only at hSw; obtain ⟨hS1, hS2⟩ := hSw; go_simp; try with_reducible rfl)
      try simp only [Act.put, List.setIfInBounds_toArray, List.set_cons_zero, List.set_cons_succ]
      refine anyT_takeL (i := 9) (v := ?vr9) rfl (by kernel_rfl) (by kernel_rfl) (by kernel_rfl) (by kernel_rfl) (by kernel_rfl) (fun _ _ _ h => h) (Or.inl ⟨by rfl, fun wS hSw => ?hyr9⟩) hS ?rer9
      case hyr9 => (dsimp only at hSw; obtain ⟨hS1, hS2⟩ := hSw; go_simp; try with_reducible rfl)
      try simp only [Act.put, List.setIfInBounds_toArray, List.set_cons_zero, List.set_cons_succ]
      refine anyT_takeL (i := 10) (v := ?vr10) rfl (by kernel_rfl) (by kernel_rfl) (by kernel_rfl) (by kernel_rfl) (by kernel_rfl) (fun _ _ _ h => h) (Or.inl ⟨by rfl, fun wS hSw => ?hyr10⟩) hS ?rer10
      case hyr10 => (dsimp only at hSw; obtain ⟨hS1, hS2⟩ := hSw; go_simp; try with_reducible rfl)
      try simp only [Act.put, List.setIfInBounds_toArray, List.set_cons_zero, List.set_cons_succ]
      refine anyT_oneL (i := 11) rfl (by kernel_rfl) ?_
      intro K hK
      go_simp
      refine (reset74 o kl lb r.log m.index m.logTerm m.members A2 n2 c2 (Of o 0) _ (show LogAt o kl w1.drew lb r.log from HL.out) HOK.out (show Wf o w1.drew from HW1.out) hl0 hi0 hi1 (show IntsAt (Of o 0) w1.drew (.slice A2 n2 c2) m.members from IntsAt.stays HIN.out (Stays.refl _ w1).drew) hml5 (by show ¬ o lb = 0; rw [HLO.out]; exact hl0)).mono ?_
      rintro e w2 ⟨o2, rfl, hL2, he2⟩
      have HE2 := Lib.hid he2.undrew
      have HR2 := Lib.hid (HR1.out.putLog d4 hkl hl0 HE2.out hL2)
      have HW2 : Hid (Wf o2 w2) := HE2.out.wf HW1.out
      have HB2 := Lib.hid (HE2.out.blk HB1.out (by rw [HPO.out]; simpa using hl0.symm))
      have HD2 : Hid (BytesAt (Of o2 0) w2 (.slice A3 n3 c3) m.data) := BytesAt.stays HDN.out (HE2.out.stays (by simpa using hl0.symm))
      have y4 : w2.cell? ⟨b, 4, none⟩ = some (.pointer (some ⟨lb, 0, none⟩)) := (HE2.out.cell (p := ⟨b, 4, none⟩) hlt (by show o b ∉ [kl]; rw [ho]; simpa using hkl)).trans d4
      have ym : ∀ i, w2.cell? ⟨w.heap.size, i, none⟩ = [Value.int .i64 m.kind, .int .i64 m.group, .int .i64 m.from_, .int .i64 m.to_, .int .i64 m.term, .int .i64 m.index, .int .i64 m.logTerm, .int .i64 m.commit, .bool m.ok, .slice A n c, .slice A2 n2 c2, .slice A3 n3 c3][i]? := HB2.out.cells
      have hml2 := HB2.out.lt
      clear hL2 he2
      try dsimp only
      clear hS
      have hS : (fun w' : World => w'.cell? ⟨b, 4, none⟩ = some (.pointer (some ⟨lb, 0, none⟩)) ∧ (∀ i, w'.cell? ⟨w.heap.size, i, none⟩ = [Value.int .i64 m.kind, .int .i64 m.group, .int .i64 m.from_, .int .i64 m.to_, .int .i64 m.term, .int .i64 m.index, .int .i64 m.logTerm, .int .i64 m.commit, .bool m.ok, .slice A n c, .slice A2 n2 c2, .slice A3 n3 c3][i]?)) w2 := ⟨y4, ym⟩
      refine hK _ _ (.inr hS) ?_
      clear hK K
      try simp only [Act.put, List.setIfInBounds_toArray, List.set_cons_zero, List.set_cons_succ]
      refine anyT_oneL (i := 12) rfl (by kernel_rfl) ?_
      intro K hK
      go_simp
      try dsimp only
      refine hK _ _ (.inl rfl) ?_
      clear hK K hS
      try simp only [Act.put, List.setIfInBounds_toArray, List.set_cons_zero, List.set_cons_succ]
      refine anyT_done (by kernel_rfl) ?_ _
      try clear hS
      -- END
      clear hlt2
      have HKP : Hid ((r.log.reset m.index m.logTerm m.members).1 ≠ 0 → (r.log.reset m.index m.logTerm m.members).2 = r.log) := reset_keepL
      generalize hq : r.log.reset m.index m.logTerm m.members = q at *
      obtain ⟨er, L⟩ := q
      clear hq
      by_cases her : er = 0
      · have her' : (er != 0) = false := by simpa using her
        have HER := Lib.hid her
        clear her
        go_wp2_with fail
        refine (clone32 _ m.data (Of o2 0) _ HD2.out hdl).mono ?_
        rintro e w3 ⟨v3, rfl, hB3, hb3⟩
        obtain ⟨A5, c5, rfl, _⟩ := hB3.form
        have HR3 := Lib.hid (HR2.out.below hb3 HW2.out)
        have HD3 : Hid (BytesAt (Of o2 0) w3 (.slice A5 m.data.length c5) m.data) := BytesAt.stays hB3 (Stays.weak _ fun b hb => HW2.out b hb)
        have HB3 := Lib.hid hb3
        obtain ⟨lb3, As3, ns3, cs3, Ao3, no3, co3, ⟨_, _, _, _, _, e5, _, _, _, _, f3, hlt3⟩, _⟩ := HR3.out.open_
        have zm : ∀ i, w3.cell? ⟨w.heap.size, i, none⟩ = [Value.int .i64 m.kind, .int .i64 m.group, .int .i64 m.from_, .int .i64 m.to_, .int .i64 m.term, .int .i64 m.index, .int .i64 m.logTerm, .int .i64 m.commit, .bool m.ok, .slice A n c, .slice A2 n2 c2, .slice A3 n3 c3][i]? := fun i => (hb3.cell (p := ⟨w.heap.size, i, none⟩) hml2).trans (ym i)
        have hne : w.heap.size ≠ b := by
          intro hq
          have h1 := HB2.out
          rw [hq] at h1
          obtain ⟨_, _, _, _, _, _, _, hb2, _⟩ := HR2.out
          exact Blk.ne_ h1 hb2 (by decide) rfl
        clear hB3 hb3 ym y4
        go_wp2_with fail
        have g := HR3.out.putState hk hkl HD3.out
        refine (send59 o2 kr kl b _ { kind := 4, to_ := m.from_, ok := true, index := m.index } 0 0 0 none 0 0 none 0 0 none 0 0 _ g.1 (fun b hb => HW2.out b (by simp at hb; have := HB3.out.size; omega)) hk hkl hlen SliceOf.nil_ SliceOf.nil_ SliceOf.nil_).mono ?_
        rintro e w4 ⟨⟨v4, rfl⟩, o4, h4, he4⟩
        have H4 := Lib.hid h4
        have HE4 := Lib.hid he4
        clear h4 he4 g
        go_wp2
        go_returns
        have g := HR3.out.putState hk hkl HD3.out
        refine ⟨⟨_, rfl⟩, o4, ?_, ((((HE1.out.mono (by simp)).trans (HE2.out.mono (by simp))).trans (Ext.of_below HB3.out HW2.out)).trans (g.2.mono (by simp))).trans (HE4.out.mono (by simp))⟩
        rw [HAPP.out, if_pos HLT.out]
        unfold RaftM.installed
        rw [if_neg (by simpa using HER.out)]
        exact H4.out
      · have her' : (er != 0) = true := by simpa using her
        have HER := Lib.hid her
        clear her
        go_wp2
        go_returns
        refine ⟨⟨_, rfl⟩, o2, ?_, (HE1.out.mono (by simp)).trans (HE2.out.mono (by simp))⟩
        rw [HAPP.out, if_pos HLT.out]
        unfold RaftM.installed
        rw [if_pos HER.out]
        have := HR2.out
        rw [show L = r.log from HKP.out HER.out] at this
        exact this
    · have HLT := Lib.hid hlt2
      clear d4
      go_wp2_with fail
      refine (send59 o kr kl b _ { kind := 4, to_ := m.from_, ok := true, index := r.log.commit } 0 0 0 none 0 0 none 0 0 none 0 0 _ HR1.out HW1.out hk hkl hlen SliceOf.nil_ SliceOf.nil_ SliceOf.nil_).mono ?_
      rintro e w3 ⟨⟨v3, rfl⟩, o3, h3, he3⟩
      have H3 := Lib.hid h3
      have HE3 := Lib.hid he3
      clear h3 he3
      go_wp2
      go_returns
      refine ⟨⟨_, rfl⟩, o3, ?_, (HE1.out.mono (by simp)).trans (HE3.out.mono (by simp))⟩
      rw [HAPP.out, if_neg (by have := HLT.out; omega)]
      exact H3.out
end Go.Proofs.Ytibkmhacpodceaa
