/- Walks: appended. -/
import Derived.Test.YtibkmhacpodceaaW31
import Derived.Test.YtibkmhacpodceaaPlain
namespace Go.Proofs.Ytibkmhacpodceaa
open Go.RowKit

theorem setOther_ok {r : RaftM} (h : r.Ok) {p n m : Int} (hn0 : 0 ≤ n) (hn1 : n ≤ 60000) (hm0 : 0 ≤ m) (hm1 : m ≤ 60000) : (r.setOther p n m).Ok := by
  refine ⟨h.log, h.id0, h.id1, h.t0, h.t1, h.mem, h.mlen, fun q => ?_, fun q => ?_, fun q => ?_, fun q => ?_, h.state, h.e0, h.e1⟩
  · rw [setOther_next]; split
    · exact hn0
    · exact h.next0 q
  · rw [setOther_next]; split
    · exact hn1
    · exact h.next1 q
  · rw [setOther_match]; split
    · exact hm0
    · exact h.match0 q
  · rw [setOther_match]; split
    · exact hm1
    · exact h.match1 q

set_option maxRecDepth 100000 in
set_option maxHeartbeats 8000000 in
theorem appended44 (o : Own) (kr kl : Nat) (b : Nat) (r : RaftM) (m : Msg) (A n c A2 n2 c2 A3 n3 c3) (w : World) (h : RaftAt o kr kl w b r) (hf : r.Fits) (hi0 : 0 ≤ m.index) (hi1 : m.index ≤ 50000) (hmt : r.match_ m.from_ ≤ 50000) (hf0 : 1 ≤ m.from_) (hf1 : m.from_ ≤ 5)
    (hw : Wf o w) (hk : kr ≠ 0) (hkl : kr ≠ kl) (hl0 : kl ≠ 0) :
    Calls Try.prog 44 #[.pointer (some ⟨b, 0, none⟩), .agg #[.int .i64 m.kind, .int .i64 m.group, .int .i64 m.from_, .int .i64 m.to_, .int .i64 m.term, .int .i64 m.index, .int .i64 m.logTerm, .int .i64 m.commit, .bool m.ok, .slice A n c, .slice A2 n2 c2, .slice A3 n3 c3]] w
      (WantIs o kr kl b (r.appended m) w) := by
  have H := Lib.hid h
  have HF := Lib.hid hf
  clear h hf
  go_enter Try.func44, Try.ntmps44
  have hbA : Below w.heap.size w (w.alloc (.cells (msgCells m (.slice A n c) (.slice A2 n2 c2) (.slice A3 n3 c3)).toArray 48)) := (Below.refl _ _).alloc (Nat.le_refl _) _
  have HBA := Lib.hid hbA
  have HB0 := Lib.hid (Blk.new w 48 (msgCells m (.slice A n c) (.slice A2 n2 c2) (.slice A3 n3 c3)))
  obtain ⟨lb, As, ns, cs, Ao, no, co, ⟨_, _, _, _, d4, _, _, _, _, _, f, hltw⟩, ho, _, _⟩ := H.out.open_
  have HLA := Lib.hid ((H.out.logAt d4).below hbA)
  have hpo : o w.heap.size = 0 := hw _ (Nat.le_refl _)
  have HPO := Lib.hid hpo
  have hll := HF.out.ok.log.len
  clear hbA hpo
  go_wp2_with fail
  refine (last28 o kl lb r.log _ HLA.out hll).mono ?_
  rintro e w1 ⟨rfl, hb1⟩
  have HB01 := Lib.hid (HBA.out.trans (hb1.mono (by simp)))
  have HR1 := Lib.hid (H.out.below HB01.out hw)
  have HB1 := Lib.hid (HB0.out.same (hb1.block w.heap.size (by simp)))
  have HW1 : Hid (Wf o w1) := fun b hb => hw b (Nat.le_trans HB01.out.size hb)
  have km := HB1.out.cells
  unfold msgCells at km
  have hml := HB1.out.lt
  have hlt1 : b < w1.heap.size := Nat.lt_of_lt_of_le hltw HB01.out.size
  have f1 : ∀ i, w1.frozen? ⟨b, i, none⟩ = false := by
    obtain ⟨_, _, _, _, _, _, _, h9, _⟩ := HR1.out
    exact h9.frozens
  have q6 : w1.cell? ⟨b, 6, none⟩ = some (.int .i64 r.role) := by
    obtain ⟨_, _, _, _, _, _, _, h9, _⟩ := HR1.out.open_
    exact h9.c6
  have qn := next_cell HR1.out m.from_ hf0 hf1
  have qm := match_cell HR1.out m.from_ hf0 hf1
  have hp0 : 0 ≤ m.from_ := by omega
  have hp1 : m.from_ < 6 := by omega
  have hne : w.heap.size ≠ b := by omega
  have hm0 := HF.out.ok.match0 m.from_
  have hnx0 := HF.out.ok.next0 m.from_
  have hnx1 := HF.out.ok.next1 m.from_
  have hla : Hid (r.log.last.1 ≤ 20000) := by
    unfold Hid
    rw [HF.out.ok.log.last1]; have := HF.out.i; omega
  have HLAST : Hid (r.log.last.1 = r.log.last.1) := rfl
  clear hb1 d4 f HB0 HBA HLA
  go_wp2
  -- BLOCK ptr
  have hS : (fun w' : World => (∀ i, w'.cell? ⟨w.heap.size, i, none⟩ = [Value.int .i64 m.kind, .int .i64 m.group, .int .i64 m.from_, .int .i64 m.to_, .int .i64 m.term, .int .i64 m.index, .int .i64 m.logTerm, .int .i64 m.commit, .bool m.ok, .slice A n c, .slice A2 n2 c2, .slice A3 n3 c3][i]?)) w1.drew := km
  refine wp_region_T 6 (fun w' : World => (∀ i, w'.cell? ⟨w.heap.size, i, none⟩ = [Value.int .i64 m.kind, .int .i64 m.group, .int .i64 m.from_, .int .i64 m.to_, .int .i64 m.term, .int .i64 m.index, .int .i64 m.logTerm, .int .i64 m.commit, .bool m.ok, .slice A n c, .slice A2 n2 c2, .slice A3 n3 c3][i]?)) (by kernel_rfl) ?_
  refine anyT_takeL (i := 0) (v := ?vp0) rfl (by kernel_rfl) (by kernel_rfl) (by kernel_rfl) (by kernel_rfl) (by kernel_rfl) (fun _ _ _ h => h) (Or.inl ⟨by rfl, fun wS hSw => ?hyp0⟩) hS ?rep0
  case hyp0 => (dsimp only at hSw; obtain hS1 := hSw; go_simp; try with_reducible rfl)
  try simp only [Act.put, List.setIfInBounds_toArray, List.set_cons_zero, List.set_cons_succ]
  refine anyT_takeL (i := 1) (v := ?vp1) rfl (by kernel_rfl) (by kernel_rfl) (by kernel_rfl) (by kernel_rfl) (by kernel_rfl) (fun _ _ _ h => h) (Or.inl ⟨by rfl, fun wS hSw => ?hyp1⟩) hS ?rep1
  case hyp1 => (dsimp only at hSw; obtain hS1 := hSw; go_simp; try with_reducible rfl)
  try simp only [Act.put, List.setIfInBounds_toArray, List.set_cons_zero, List.set_cons_succ]
  refine anyT_takeL (i := 2) (v := ?vp2) rfl (by kernel_rfl) (by kernel_rfl) (by kernel_rfl) (by kernel_rfl) (by kernel_rfl) (fun _ _ _ h => h) (Or.inl ⟨by rfl, fun wS hSw => ?hyp2⟩) hS ?rep2
  case hyp2 => (dsimp only at hSw; obtain hS1 := hSw; go_simp; try with_reducible rfl)
  try simp only [Act.put, List.setIfInBounds_toArray, List.set_cons_zero, List.set_cons_succ]
  refine anyT_takeL (i := 3) (v := ?vp3) rfl (by kernel_rfl) (by kernel_rfl) (by kernel_rfl) (by kernel_rfl) (by kernel_rfl) (fun _ _ _ h => h) (Or.inl ⟨by rfl, fun wS hSw => ?hyp3⟩) hS ?rep3
  case hyp3 => (dsimp only at hSw; obtain hS1 := hSw; go_simp; try with_reducible rfl)
  try simp only [Act.put, List.setIfInBounds_toArray, List.set_cons_zero, List.set_cons_succ]
  refine anyT_takeL (i := 4) (v := ?vp4) rfl (by kernel_rfl) (by kernel_rfl) (by kernel_rfl) (by kernel_rfl) (by kernel_rfl) (fun _ _ _ h => h) (Or.inl ⟨by rfl, fun wS hSw => ?hyp4⟩) hS ?rep4
  case hyp4 => (dsimp only at hSw; obtain hS1 := hSw; go_simp; try with_reducible rfl)
  try simp only [Act.put, List.setIfInBounds_toArray, List.set_cons_zero, List.set_cons_succ]
  refine anyT_takeL (i := 5) (v := ?vp5) rfl (by kernel_rfl) (by kernel_rfl) (by kernel_rfl) (by kernel_rfl) (by kernel_rfl) (fun _ _ _ h => h) (Or.inl ⟨by rfl, fun wS hSw => ?hyp5⟩) hS ?rep5
  case hyp5 => (dsimp only at hSw; obtain hS1 := hSw; go_simp; try with_reducible rfl)
  try simp only [Act.put, List.setIfInBounds_toArray, List.set_cons_zero, List.set_cons_succ]
  refine anyT_oneL (i := 6) rfl (by kernel_rfl) ?_
  intro K hK
  go_simp
  try dsimp only
  refine hK _ _ (.inl rfl) ?_
  clear hK K hS
  try simp only [Act.put, List.setIfInBounds_toArray, List.set_cons_zero, List.set_cons_succ]
  refine anyT_done (by kernel_rfl) ?_ _
  try clear hS
  -- END
  generalize hgl : r.log.last.1 = la at *
  have HLA2 := Lib.hid hgl
  generalize r.log.last.2 = lt at *
  clear hgl HLAST
  have hlab := hla.out
  by_cases hrole : r.role = 3
  · have hr' : (r.role != 3) = false := by simpa using hrole
    have HROLE := Lib.hid hrole
    clear hrole
    have hap : r.appended m = if m.ok = false then
        if m.index + 1 < r.next m.from_ then (r.setOther m.from_ (max m.index (r.match_ m.from_) + 1) (r.match_ m.from_)).sendTo m.from_ else r
      else if m.index ≤ la then
        RaftM.onward m.from_ la (max (r.match_ m.from_) m.index + 1) (r.setOther m.from_ (max (r.match_ m.from_) m.index + 1) (max (r.match_ m.from_) m.index)).commitM
      else r := by
      unfold RaftM.appended
      rw [if_neg (by simpa using HROLE.out), HLA2.out]
    have HAP := Lib.hid hap
    clear hap
    cases hok : m.ok
    · have HOKM := Lib.hid hok
      rw [hok] at km
      clear hok
      rw [HOKM.out, if_pos rfl] at HAP
      have e1 : IntKind.i64.wrap (m.index + 1) = m.index + 1 := IntWalk.i64_in _ (by omega)
      by_cases hlt2 : m.index + 1 < r.next m.from_
      · have HLT := Lib.hid hlt2
        have hlt2' : decide (m.index + 1 < r.next m.from_) = true := by simpa using hlt2
        clear hlt2
        go_wp2
        -- BLOCK less
        have hS : (fun w' : World => (∀ i, w'.cell? ⟨w.heap.size, i, none⟩ = [Value.int .i64 m.kind, .int .i64 m.group, .int .i64 m.from_, .int .i64 m.to_, .int .i64 m.term, .int .i64 m.index, .int .i64 m.logTerm, .int .i64 m.commit, .bool false, .slice A n c, .slice A2 n2 c2, .slice A3 n3 c3][i]?) ∧ w'.cell? ⟨b, 15 + m.from_.toNat * 2, none⟩ = some (.int .i64 (r.next m.from_))) w1.drew.drew := ⟨km, qn⟩
        refine wp_region_T 7 (fun w' : World => (∀ i, w'.cell? ⟨w.heap.size, i, none⟩ = [Value.int .i64 m.kind, .int .i64 m.group, .int .i64 m.from_, .int .i64 m.to_, .int .i64 m.term, .int .i64 m.index, .int .i64 m.logTerm, .int .i64 m.commit, .bool false, .slice A n c, .slice A2 n2 c2, .slice A3 n3 c3][i]?) ∧ w'.cell? ⟨b, 15 + m.from_.toNat * 2, none⟩ = some (.int .i64 (r.next m.from_))) (by kernel_rfl) ?_
        refine anyT_takeL (i := 0) (v := ?vl0) rfl (by kernel_rfl) (by kernel_rfl) (by kernel_rfl) (by kernel_rfl) (by kernel_rfl) (fun _ _ _ h => h) (Or.inl ⟨by rfl, fun wS hSw => ?hyl0⟩) hS ?rel0
        case hyl0 => (dsimp only at hSw; obtain ⟨hS1, hS2⟩ := hSw; go_simp; try with_reducible rfl)
        try simp only [Act.put, List.setIfInBounds_toArray, List.set_cons_zero, List.set_cons_succ]
        refine anyT_takeL (i := 1) (v := ?vl1) rfl (by kernel_rfl) (by kernel_rfl) (by kernel_rfl) (by kernel_rfl) (by kernel_rfl) (fun _ _ _ h => h) (Or.inl ⟨by rfl, fun wS hSw => ?hyl1⟩) hS ?rel1
        case hyl1 => (dsimp only at hSw; obtain ⟨hS1, hS2⟩ := hSw; go_simp; try with_reducible rfl)
        try simp only [Act.put, List.setIfInBounds_toArray, List.set_cons_zero, List.set_cons_succ]
        refine anyT_takeL (i := 2) (v := ?vl2) rfl (by kernel_rfl) (by kernel_rfl) (by kernel_rfl) (by kernel_rfl) (by kernel_rfl) (fun _ _ _ h => h) (Or.inl ⟨by rfl, fun wS hSw => ?hyl2⟩) hS ?rel2
        case hyl2 => (dsimp only at hSw; obtain ⟨hS1, hS2⟩ := hSw; go_simp; try with_reducible rfl)
        try simp only [Act.put, List.setIfInBounds_toArray, List.set_cons_zero, List.set_cons_succ]
        refine anyT_takeL (i := 3) (v := ?vl3) rfl (by kernel_rfl) (by kernel_rfl) (by kernel_rfl) (by kernel_rfl) (by kernel_rfl) (fun _ _ _ h => h) (Or.inl ⟨by rfl, fun wS hSw => ?hyl3⟩) hS ?rel3
        case hyl3 => (dsimp only at hSw; obtain ⟨hS1, hS2⟩ := hSw; go_simp; try with_reducible rfl)
        try simp only [Act.put, List.setIfInBounds_toArray, List.set_cons_zero, List.set_cons_succ]
        refine anyT_takeL (i := 4) (v := ?vl4) rfl (by kernel_rfl) (by kernel_rfl) (by kernel_rfl) (by kernel_rfl) (by kernel_rfl) (fun _ _ _ h => h) (Or.inl ⟨by rfl, fun wS hSw => ?hyl4⟩) hS ?rel4
        case hyl4 => (dsimp only at hSw; obtain ⟨hS1, hS2⟩ := hSw; go_simp; try with_reducible rfl)
        try simp only [Act.put, List.setIfInBounds_toArray, List.set_cons_zero, List.set_cons_succ]
        refine anyT_takeL (i := 5) (v := ?vl5) rfl (by kernel_rfl) (by kernel_rfl) (by kernel_rfl) (by kernel_rfl) (by kernel_rfl) (fun _ _ _ h => h) (Or.inl ⟨by rfl, fun wS hSw => ?hyl5⟩) hS ?rel5
        case hyl5 => (dsimp only at hSw; obtain ⟨hS1, hS2⟩ := hSw; go_simp; try with_reducible rfl)
        try simp only [Act.put, List.setIfInBounds_toArray, List.set_cons_zero, List.set_cons_succ]
        refine anyT_takeL (i := 6) (v := ?vl6) rfl (by kernel_rfl) (by kernel_rfl) (by kernel_rfl) (by kernel_rfl) (by kernel_rfl) (fun _ _ _ h => h) (Or.inl ⟨by rfl, fun wS hSw => ?hyl6⟩) hS ?rel6
        case hyl6 => (dsimp only at hSw; obtain ⟨hS1, hS2⟩ := hSw; go_simp; try with_reducible rfl)
        try simp only [Act.put, List.setIfInBounds_toArray, List.set_cons_zero, List.set_cons_succ]
        refine anyT_oneL (i := 7) rfl (by kernel_rfl) ?_
        intro K hK
        go_simp
        try dsimp only
        refine hK _ _ (.inl rfl) ?_
        clear hK K hS
        try simp only [Act.put, List.setIfInBounds_toArray, List.set_cons_zero, List.set_cons_succ]
        refine anyT_done (by kernel_rfl) ?_ _
        try clear hS
        -- END
        clear e1
        go_wp2
        clear hlt2'
        have hmx : (if m.index < r.match_ m.from_ then r.match_ m.from_ else m.index) = max m.index (r.match_ m.from_) := by split <;> omega
        have e2 : IntKind.i64.wrap ((if m.index < r.match_ m.from_ then r.match_ m.from_ else m.index) + 1) = max m.index (r.match_ m.from_) + 1 := by
          rw [hmx]; exact IntWalk.i64_in _ (by omega)
        clear hmx
        -- BLOCK back
        have hS : (fun w' : World => (∀ i, w'.cell? ⟨w.heap.size, i, none⟩ = [Value.int .i64 m.kind, .int .i64 m.group, .int .i64 m.from_, .int .i64 m.to_, .int .i64 m.term, .int .i64 m.index, .int .i64 m.logTerm, .int .i64 m.commit, .bool false, .slice A n c, .slice A2 n2 c2, .slice A3 n3 c3][i]?) ∧ w'.cell? ⟨b, 15 + m.from_.toNat * 2 + 1, none⟩ = some (.int .i64 (r.match_ m.from_))) w1.drew.drew.drew := ⟨km, qm⟩
        refine wp_region_T 11 (fun w' : World => (∀ i, w'.cell? ⟨w.heap.size, i, none⟩ = [Value.int .i64 m.kind, .int .i64 m.group, .int .i64 m.from_, .int .i64 m.to_, .int .i64 m.term, .int .i64 m.index, .int .i64 m.logTerm, .int .i64 m.commit, .bool false, .slice A n c, .slice A2 n2 c2, .slice A3 n3 c3][i]?) ∧ w'.cell? ⟨b, 15 + m.from_.toNat * 2 + 1, none⟩ = some (.int .i64 (r.match_ m.from_))) (by kernel_rfl) ?_
        refine anyT_takeL (i := 0) (v := ?vk0) rfl (by kernel_rfl) (by kernel_rfl) (by kernel_rfl) (by kernel_rfl) (by kernel_rfl) (fun _ _ _ h => h) (Or.inl ⟨by rfl, fun wS hSw => ?hyk0⟩) hS ?rek0
        case hyk0 => (dsimp only at hSw; obtain ⟨hS1, hS2⟩ := hSw; go_simp; try with_reducible rfl)
        try simp only [Act.put, List.setIfInBounds_toArray, List.set_cons_zero, List.set_cons_succ]
        refine anyT_takeL (i := 1) (v := ?vk1) rfl (by kernel_rfl) (by kernel_rfl) (by kernel_rfl) (by kernel_rfl) (by kernel_rfl) (fun _ _ _ h => h) (Or.inl ⟨by rfl, fun wS hSw => ?hyk1⟩) hS ?rek1
        case hyk1 => (dsimp only at hSw; obtain ⟨hS1, hS2⟩ := hSw; go_simp; try with_reducible rfl)
        try simp only [Act.put, List.setIfInBounds_toArray, List.set_cons_zero, List.set_cons_succ]
        refine anyT_takeL (i := 2) (v := ?vk2) rfl (by kernel_rfl) (by kernel_rfl) (by kernel_rfl) (by kernel_rfl) (by kernel_rfl) (fun _ _ _ h => h) (Or.inl ⟨by rfl, fun wS hSw => ?hyk2⟩) hS ?rek2
        case hyk2 => (dsimp only at hSw; obtain ⟨hS1, hS2⟩ := hSw; go_simp; try with_reducible rfl)
        try simp only [Act.put, List.setIfInBounds_toArray, List.set_cons_zero, List.set_cons_succ]
        refine anyT_takeL (i := 3) (v := ?vk3) rfl (by kernel_rfl) (by kernel_rfl) (by kernel_rfl) (by kernel_rfl) (by kernel_rfl) (fun _ _ _ h => h) (Or.inl ⟨by rfl, fun wS hSw => ?hyk3⟩) hS ?rek3
        case hyk3 => (dsimp only at hSw; obtain ⟨hS1, hS2⟩ := hSw; go_simp; try with_reducible rfl)
        try simp only [Act.put, List.setIfInBounds_toArray, List.set_cons_zero, List.set_cons_succ]
        refine anyT_takeL (i := 4) (v := ?vk4) rfl (by kernel_rfl) (by kernel_rfl) (by kernel_rfl) (by kernel_rfl) (by kernel_rfl) (fun _ _ _ h => h) (Or.inl ⟨by rfl, fun wS hSw => ?hyk4⟩) hS ?rek4
        case hyk4 => (dsimp only at hSw; obtain ⟨hS1, hS2⟩ := hSw; go_simp; try with_reducible rfl)
        try simp only [Act.put, List.setIfInBounds_toArray, List.set_cons_zero, List.set_cons_succ]
        refine anyT_takeL (i := 5) (v := ?vk5) rfl (by kernel_rfl) (by kernel_rfl) (by kernel_rfl) (by kernel_rfl) (by kernel_rfl) (fun _ _ _ h => h) (Or.inl ⟨by rfl, fun wS hSw => ?hyk5⟩) hS ?rek5
        case hyk5 => (dsimp only at hSw; obtain ⟨hS1, hS2⟩ := hSw; go_simp; try with_reducible rfl)
        try simp only [Act.put, List.setIfInBounds_toArray, List.set_cons_zero, List.set_cons_succ]
        refine anyT_takeL (i := 6) (v := ?vk6) rfl (by kernel_rfl) (by kernel_rfl) (by kernel_rfl) (by kernel_rfl) (by kernel_rfl) (fun _ _ _ h => h) (Or.inl ⟨by rfl, fun wS hSw => ?hyk6⟩) hS ?rek6
        case hyk6 => (dsimp only at hSw; obtain ⟨hS1, hS2⟩ := hSw; go_simp; try with_reducible rfl)
        try simp only [Act.put, List.setIfInBounds_toArray, List.set_cons_zero, List.set_cons_succ]
        refine anyT_takeL (i := 7) (v := ?vk7) rfl (by kernel_rfl) (by kernel_rfl) (by kernel_rfl) (by kernel_rfl) (by kernel_rfl) (fun _ _ _ h => h) (Or.inl ⟨by rfl, fun wS hSw => ?hyk7⟩) hS ?rek7
        case hyk7 => (dsimp only at hSw; obtain ⟨hS1, hS2⟩ := hSw; go_simp; try with_reducible rfl)
        try simp only [Act.put, List.setIfInBounds_toArray, List.set_cons_zero, List.set_cons_succ]
        refine anyT_takeL (i := 8) (v := ?vk8) rfl (by kernel_rfl) (by kernel_rfl) (by kernel_rfl) (by kernel_rfl) (by kernel_rfl) (fun _ _ _ h => h) (Or.inl ⟨by rfl, fun wS hSw => ?hyk8⟩) hS ?rek8
        case hyk8 => (dsimp only at hSw; obtain ⟨hS1, hS2⟩ := hSw; go_simp; try with_reducible rfl)
        try simp only [Act.put, List.setIfInBounds_toArray, List.set_cons_zero, List.set_cons_succ]
        refine anyT_takeL (i := 9) (v := ?vk9) rfl (by kernel_rfl) (by kernel_rfl) (by kernel_rfl) (by kernel_rfl) (by kernel_rfl) (fun _ _ _ h => h) (Or.inl ⟨by rfl, fun wS hSw => ?hyk9⟩) hS ?rek9
        case hyk9 => (dsimp only at hSw; obtain ⟨hS1, hS2⟩ := hSw; go_simp; try with_reducible rfl)
        try simp only [Act.put, List.setIfInBounds_toArray, List.set_cons_zero, List.set_cons_succ]
        refine anyT_takeL (i := 10) (v := ?vk10) rfl (by kernel_rfl) (by kernel_rfl) (by kernel_rfl) (by kernel_rfl) (by kernel_rfl) (fun _ _ _ h => h) (Or.inl ⟨by rfl, fun wS hSw => ?hyk10⟩) hS ?rek10
        case hyk10 => (dsimp only at hSw; obtain ⟨hS1, hS2⟩ := hSw; go_simp; try with_reducible rfl)
        try simp only [Act.put, List.setIfInBounds_toArray, List.set_cons_zero, List.set_cons_succ]
        refine anyT_oneL (i := 11) rfl (by kernel_rfl) ?_
        intro K hK
        go_simp
        try dsimp only
        refine hK _ _ (.inl rfl) ?_
        clear hK K hS
        try simp only [Act.put, List.setIfInBounds_toArray, List.set_cons_zero, List.set_cons_succ]
        refine anyT_done (by kernel_rfl) ?_ _
        try clear hS
        -- END
        clear e2
        have g1 := HR1.out.field hk hkl (r' := r.setOther m.from_ (max m.index (r.match_ m.from_) + 1) (r.match_ m.from_)) (15 + m.from_.toNat * 2) (.int .i64 (max m.index (r.match_ m.from_) + 1)) (fun _ _ _ => raftCells_setNext HR1.out.v6 HR1.out.o6 m.from_.toNat (by omega) _) rfl rfl rfl HR1.out.v6 (by simp [RaftM.setOther, HR1.out.o6])
        refine (fun (HH : ∀ U : World, Hid (RaftAt o kr kl U b (r.setOther m.from_ (max m.index (r.match_ m.from_) + 1) (r.match_ m.from_)) ∧ Ext [kr] o o w1 U) → Exit.then _ _ _ _ U) => HH _ ⟨g1.1.drew.drew.drew, g1.2.drew.drew.drew⟩) ?_
        intro U HU
        clear g1
        have HBU := Lib.hid (HU.out.2.blk HB1.out (by rw [HPO.out]; simpa using hk.symm))
        have kmU := HBU.out.cells
        unfold msgCells at kmU
        rw [HOKM.out] at kmU
        have hmlU := HBU.out.lt
        have HOKU : Hid ((r.setOther m.from_ (max m.index (r.match_ m.from_) + 1) (r.match_ m.from_)).Ok) := setOther_ok HF.out.ok (by omega) (by omega) (by omega) (by omega)
        clear km qn qm q6 f1
        go_wp2_with (go_at_call 56; refine (sendTo56 o kr kl b _ m.from_ _ HU.out.1 HOKU.out (HU.out.2.wf HW1.out) hk hkl (by have := HF.out.out; show r.out.length ≤ 50000; omega) hf0 hf1).mono ?_; rintro e w2 ⟨⟨v2, rfl⟩, o2, h2, he2⟩)
        all_goals
          have H2 := Lib.hid h2
          have HE2 := Lib.hid he2
          clear h2 he2
          go_wp2
          go_returns
          refine ⟨⟨_, rfl⟩, o2, ?_, ((Ext.of_below HB01.out hw).trans (HU.out.2.mono (by simp))).trans (HE2.out.mono (by simp))⟩
          rw [HAP.out, if_pos HLT.out]
          exact H2.out
      · have HLT := Lib.hid hlt2
        have hlt2' : decide (m.index + 1 < r.next m.from_) = false := by simpa using hlt2
        clear hlt2
        go_wp2
        -- BLOCK lesz
        have hS : (fun w' : World => (∀ i, w'.cell? ⟨w.heap.size, i, none⟩ = [Value.int .i64 m.kind, .int .i64 m.group, .int .i64 m.from_, .int .i64 m.to_, .int .i64 m.term, .int .i64 m.index, .int .i64 m.logTerm, .int .i64 m.commit, .bool false, .slice A n c, .slice A2 n2 c2, .slice A3 n3 c3][i]?) ∧ w'.cell? ⟨b, 15 + m.from_.toNat * 2, none⟩ = some (.int .i64 (r.next m.from_))) w1.drew.drew := ⟨km, qn⟩
        refine wp_region_T 7 (fun w' : World => (∀ i, w'.cell? ⟨w.heap.size, i, none⟩ = [Value.int .i64 m.kind, .int .i64 m.group, .int .i64 m.from_, .int .i64 m.to_, .int .i64 m.term, .int .i64 m.index, .int .i64 m.logTerm, .int .i64 m.commit, .bool false, .slice A n c, .slice A2 n2 c2, .slice A3 n3 c3][i]?) ∧ w'.cell? ⟨b, 15 + m.from_.toNat * 2, none⟩ = some (.int .i64 (r.next m.from_))) (by kernel_rfl) ?_
        refine anyT_takeL (i := 0) (v := ?vz0) rfl (by kernel_rfl) (by kernel_rfl) (by kernel_rfl) (by kernel_rfl) (by kernel_rfl) (fun _ _ _ h => h) (Or.inl ⟨by rfl, fun wS hSw => ?hyz0⟩) hS ?rez0
        case hyz0 => (dsimp only at hSw; obtain ⟨hS1, hS2⟩ := hSw; go_simp; try with_reducible rfl)
        try simp only [Act.put, List.setIfInBounds_toArray, List.set_cons_zero, List.set_cons_succ]
        refine anyT_takeL (i := 1) (v := ?vz1) rfl (by kernel_rfl) (by kernel_rfl) (by kernel_rfl) (by kernel_rfl) (by kernel_rfl) (fun _ _ _ h => h) (Or.inl ⟨by rfl, fun wS hSw => ?hyz1⟩) hS ?rez1
        case hyz1 => (dsimp only at hSw; obtain ⟨hS1, hS2⟩ := hSw; go_simp; try with_reducible rfl)
        try simp only [Act.put, List.setIfInBounds_toArray, List.set_cons_zero, List.set_cons_succ]
        refine anyT_takeL (i := 2) (v := ?vz2) rfl (by kernel_rfl) (by kernel_rfl) (by kernel_rfl) (by kernel_rfl) (by kernel_rfl) (fun _ _ _ h => h) (Or.inl ⟨by rfl, fun wS hSw => ?hyz2⟩) hS ?rez2
        case hyz2 => (dsimp only at hSw; obtain ⟨hS1, hS2⟩ := hSw; go_simp; try with_reducible rfl)
        try simp only [Act.put, List.setIfInBounds_toArray, List.set_cons_zero, List.set_cons_succ]
        refine anyT_takeL (i := 3) (v := ?vz3) rfl (by kernel_rfl) (by kernel_rfl) (by kernel_rfl) (by kernel_rfl) (by kernel_rfl) (fun _ _ _ h => h) (Or.inl ⟨by rfl, fun wS hSw => ?hyz3⟩) hS ?rez3
        case hyz3 => (dsimp only at hSw; obtain ⟨hS1, hS2⟩ := hSw; go_simp; try with_reducible rfl)
        try simp only [Act.put, List.setIfInBounds_toArray, List.set_cons_zero, List.set_cons_succ]
        refine anyT_takeL (i := 4) (v := ?vz4) rfl (by kernel_rfl) (by kernel_rfl) (by kernel_rfl) (by kernel_rfl) (by kernel_rfl) (fun _ _ _ h => h) (Or.inl ⟨by rfl, fun wS hSw => ?hyz4⟩) hS ?rez4
        case hyz4 => (dsimp only at hSw; obtain ⟨hS1, hS2⟩ := hSw; go_simp; try with_reducible rfl)
        try simp only [Act.put, List.setIfInBounds_toArray, List.set_cons_zero, List.set_cons_succ]
        refine anyT_takeL (i := 5) (v := ?vz5) rfl (by kernel_rfl) (by kernel_rfl) (by kernel_rfl) (by kernel_rfl) (by kernel_rfl) (fun _ _ _ h => h) (Or.inl ⟨by rfl, fun wS hSw => ?hyz5⟩) hS ?rez5
        case hyz5 => (dsimp only at hSw; obtain ⟨hS1, hS2⟩ := hSw; go_simp; try with_reducible rfl)
        try simp only [Act.put, List.setIfInBounds_toArray, List.set_cons_zero, List.set_cons_succ]
        refine anyT_takeL (i := 6) (v := ?vz6) rfl (by kernel_rfl) (by kernel_rfl) (by kernel_rfl) (by kernel_rfl) (by kernel_rfl) (fun _ _ _ h => h) (Or.inl ⟨by rfl, fun wS hSw => ?hyz6⟩) hS ?rez6
        case hyz6 => (dsimp only at hSw; obtain ⟨hS1, hS2⟩ := hSw; go_simp; try with_reducible rfl)
        try simp only [Act.put, List.setIfInBounds_toArray, List.set_cons_zero, List.set_cons_succ]
        refine anyT_oneL (i := 7) rfl (by kernel_rfl) ?_
        intro K hK
        go_simp
        try dsimp only
        refine hK _ _ (.inl rfl) ?_
        clear hK K hS
        try simp only [Act.put, List.setIfInBounds_toArray, List.set_cons_zero, List.set_cons_succ]
        refine anyT_done (by kernel_rfl) ?_ _
        try clear hS
        -- END
        clear e1
        go_wp2
        clear hlt2'
        go_returns
        refine ⟨⟨_, rfl⟩, o, ?_, (Ext.of_below HB01.out hw).drew.drew⟩
        rw [HAP.out, if_neg (by have := HLT.out; omega)]
        exact HR1.out.drew.drew
    · have HOKM := Lib.hid hok
      rw [hok] at km
      clear hok
      rw [HOKM.out, if_neg (by simp)] at HAP
      by_cases hle : m.index ≤ la
      · have HLE := Lib.hid hle
        obtain ⟨mx, hmx⟩ : ∃ mx : Int, (if r.match_ m.from_ < m.index then m.index else r.match_ m.from_) = mx := ⟨_, rfl⟩
        have HMX : Hid (mx = max (r.match_ m.from_) m.index) := by unfold Hid; rw [← hmx]; split <;> omega
        have hmx0 : 0 ≤ mx := by have := HMX.out; omega
        have hmx1 : mx ≤ 50000 := by have := HMX.out; omega
        go_wp2
        -- BLOCK more
        have hS : (fun w' : World => (∀ i, w'.cell? ⟨w.heap.size, i, none⟩ = [Value.int .i64 m.kind, .int .i64 m.group, .int .i64 m.from_, .int .i64 m.to_, .int .i64 m.term, .int .i64 m.index, .int .i64 m.logTerm, .int .i64 m.commit, .bool true, .slice A n c, .slice A2 n2 c2, .slice A3 n3 c3][i]?) ∧ w'.cell? ⟨b, 15 + m.from_.toNat * 2 + 1, none⟩ = some (.int .i64 (r.match_ m.from_))) w1.drew.drew := ⟨km, qm⟩
        refine wp_region_T 10 (fun w' : World => (∀ i, w'.cell? ⟨w.heap.size, i, none⟩ = [Value.int .i64 m.kind, .int .i64 m.group, .int .i64 m.from_, .int .i64 m.to_, .int .i64 m.term, .int .i64 m.index, .int .i64 m.logTerm, .int .i64 m.commit, .bool true, .slice A n c, .slice A2 n2 c2, .slice A3 n3 c3][i]?) ∧ w'.cell? ⟨b, 15 + m.from_.toNat * 2 + 1, none⟩ = some (.int .i64 (r.match_ m.from_))) (by kernel_rfl) ?_
        refine anyT_takeL (i := 0) (v := ?vm0) rfl (by kernel_rfl) (by kernel_rfl) (by kernel_rfl) (by kernel_rfl) (by kernel_rfl) (fun _ _ _ h => h) (Or.inl ⟨by rfl, fun wS hSw => ?hym0⟩) hS ?rem0
        case hym0 => (dsimp only at hSw; obtain ⟨hS1, hS2⟩ := hSw; go_simp; try with_reducible rfl)
        try simp only [Act.put, List.setIfInBounds_toArray, List.set_cons_zero, List.set_cons_succ]
        refine anyT_takeL (i := 1) (v := ?vm1) rfl (by kernel_rfl) (by kernel_rfl) (by kernel_rfl) (by kernel_rfl) (by kernel_rfl) (fun _ _ _ h => h) (Or.inl ⟨by rfl, fun wS hSw => ?hym1⟩) hS ?rem1
        case hym1 => (dsimp only at hSw; obtain ⟨hS1, hS2⟩ := hSw; go_simp; try with_reducible rfl)
        try simp only [Act.put, List.setIfInBounds_toArray, List.set_cons_zero, List.set_cons_succ]
        refine anyT_takeL (i := 2) (v := ?vm2) rfl (by kernel_rfl) (by kernel_rfl) (by kernel_rfl) (by kernel_rfl) (by kernel_rfl) (fun _ _ _ h => h) (Or.inl ⟨by rfl, fun wS hSw => ?hym2⟩) hS ?rem2
        case hym2 => (dsimp only at hSw; obtain ⟨hS1, hS2⟩ := hSw; go_simp; try with_reducible rfl)
        try simp only [Act.put, List.setIfInBounds_toArray, List.set_cons_zero, List.set_cons_succ]
        refine anyT_takeL (i := 3) (v := ?vm3) rfl (by kernel_rfl) (by kernel_rfl) (by kernel_rfl) (by kernel_rfl) (by kernel_rfl) (fun _ _ _ h => h) (Or.inl ⟨by rfl, fun wS hSw => ?hym3⟩) hS ?rem3
        case hym3 => (dsimp only at hSw; obtain ⟨hS1, hS2⟩ := hSw; go_simp; try with_reducible rfl)
        try simp only [Act.put, List.setIfInBounds_toArray, List.set_cons_zero, List.set_cons_succ]
        refine anyT_takeL (i := 4) (v := ?vm4) rfl (by kernel_rfl) (by kernel_rfl) (by kernel_rfl) (by kernel_rfl) (by kernel_rfl) (fun _ _ _ h => h) (Or.inl ⟨by rfl, fun wS hSw => ?hym4⟩) hS ?rem4
        case hym4 => (dsimp only at hSw; obtain ⟨hS1, hS2⟩ := hSw; go_simp; try with_reducible rfl)
        try simp only [Act.put, List.setIfInBounds_toArray, List.set_cons_zero, List.set_cons_succ]
        refine anyT_takeL (i := 5) (v := ?vm5) rfl (by kernel_rfl) (by kernel_rfl) (by kernel_rfl) (by kernel_rfl) (by kernel_rfl) (fun _ _ _ h => h) (Or.inl ⟨by rfl, fun wS hSw => ?hym5⟩) hS ?rem5
        case hym5 => (dsimp only at hSw; obtain ⟨hS1, hS2⟩ := hSw; go_simp; try with_reducible rfl)
        try simp only [Act.put, List.setIfInBounds_toArray, List.set_cons_zero, List.set_cons_succ]
        refine anyT_takeL (i := 6) (v := ?vm6) rfl (by kernel_rfl) (by kernel_rfl) (by kernel_rfl) (by kernel_rfl) (by kernel_rfl) (fun _ _ _ h => h) (Or.inl ⟨by rfl, fun wS hSw => ?hym6⟩) hS ?rem6
        case hym6 => (dsimp only at hSw; obtain ⟨hS1, hS2⟩ := hSw; go_simp; try with_reducible rfl)
        try simp only [Act.put, List.setIfInBounds_toArray, List.set_cons_zero, List.set_cons_succ]
        refine anyT_takeL (i := 7) (v := ?vm7) rfl (by kernel_rfl) (by kernel_rfl) (by kernel_rfl) (by kernel_rfl) (by kernel_rfl) (fun _ _ _ h => h) (Or.inl ⟨by rfl, fun wS hSw => ?hym7⟩) hS ?rem7
        case hym7 => (dsimp only at hSw; obtain ⟨hS1, hS2⟩ := hSw; go_simp; try with_reducible rfl)
        try simp only [Act.put, List.setIfInBounds_toArray, List.set_cons_zero, List.set_cons_succ]
        refine anyT_takeL (i := 8) (v := ?vm8) rfl (by kernel_rfl) (by kernel_rfl) (by kernel_rfl) (by kernel_rfl) (by kernel_rfl) (fun _ _ _ h => h) (Or.inl ⟨by rfl, fun wS hSw => ?hym8⟩) hS ?rem8
        case hym8 => (dsimp only at hSw; obtain ⟨hS1, hS2⟩ := hSw; go_simp; try with_reducible rfl)
        try simp only [Act.put, List.setIfInBounds_toArray, List.set_cons_zero, List.set_cons_succ]
        refine anyT_takeL (i := 9) (v := ?vm9) rfl (by kernel_rfl) (by kernel_rfl) (by kernel_rfl) (by kernel_rfl) (by kernel_rfl) (fun _ _ _ h => h) (Or.inl ⟨by rfl, fun wS hSw => ?hym9⟩) hS ?rem9
        case hym9 => (dsimp only at hSw; obtain ⟨hS1, hS2⟩ := hSw; go_simp; try with_reducible rfl)
        try simp only [Act.put, List.setIfInBounds_toArray, List.set_cons_zero, List.set_cons_succ]
        refine anyT_oneL (i := 10) rfl (by kernel_rfl) ?_
        intro K hK
        go_simp
        try dsimp only
        refine hK _ _ (.inl rfl) ?_
        clear hK K hS
        try simp only [Act.put, List.setIfInBounds_toArray, List.set_cons_zero, List.set_cons_succ]
        refine anyT_done (by kernel_rfl) ?_ _
        try clear hS
        -- END
        clear hmx hle
        have hq1 : ({ r with others := r.others.set m.from_.toNat (((r.others[m.from_.toNat]?).getD (0, 0)).1, mx) } : RaftM).others.length = 6 := by simp [HR1.out.o6]
        have g1 := HR1.out.field hk hkl (r' := { r with others := r.others.set m.from_.toNat (((r.others[m.from_.toNat]?).getD (0, 0)).1, mx) }) (15 + m.from_.toNat * 2 + 1) (.int .i64 mx) (fun _ _ _ => raftCells_setMatch HR1.out.v6 HR1.out.o6 m.from_.toNat (by omega) _) rfl rfl rfl HR1.out.v6 hq1
        have hget : ({ r with others := r.others.set m.from_.toNat (((r.others[m.from_.toNat]?).getD (0, 0)).1, mx) } : RaftM).others[m.from_.toNat]? = some (((r.others[m.from_.toNat]?).getD (0, 0)).1, mx) := by
          show (r.others.set m.from_.toNat _)[m.from_.toNat]? = _
          rw [List.getElem?_set, if_pos rfl, if_pos (by rw [HR1.out.o6]; omega)]
        have g2 := g1.1.field hk hkl (r' := r.setOther m.from_ (mx + 1) mx) (15 + m.from_.toNat * 2) (.int .i64 (mx + 1)) (fun lb sv ov => by
          have h9 := raftCells_setNext (r := { r with others := r.others.set m.from_.toNat (((r.others[m.from_.toNat]?).getD (0, 0)).1, mx) }) (lb := lb) (sv := sv) (ov := ov) HR1.out.v6 hq1 m.from_.toNat (by omega) (mx + 1)
          rw [hget] at h9
          rw [h9]
          simp only [RaftM.setOther, List.set_set, Option.getD_some]) rfl rfl rfl HR1.out.v6 (by simp [RaftM.setOther, HR1.out.o6])
        have HG2 := Lib.hid (And.intro g2.1 (g1.2.trans g2.2))
        clear g1 g2 hget hq1
        have HOK7 : Hid ((r.setOther m.from_ (mx + 1) mx).Ok) := setOther_ok HF.out.ok (by omega) (by omega) (by omega) (by omega)
        have hnx : (r.setOther m.from_ (mx + 1) mx).commitM.2.next m.from_ = mx + 1 := by
          rw [commitM_next, setOther_next, if_pos ⟨rfl, by rw [HR1.out.o6]; omega⟩]
        have HNX := Lib.hid hnx
        have hoo : (r.setOther m.from_ (mx + 1) mx).commitM.2.out = r.out := commitM_out _
        have HOO := Lib.hid hoo
        clear hnx hoo
        go_wp2_with fail
        refine (commit70 o kr kl b _ _ HG2.out.1.drew.drew HOK7.out (show Wf o _ from fun b hb => HW1.out b (Nat.le_trans HG2.out.2.size hb)) hk hkl hl0).mono ?_
        rintro e w5 ⟨o5, rfl, hR5, hE5⟩
        have HB7 := Lib.hid (HG2.out.2.blk HB1.out (by rw [HPO.out]; simpa using hk.symm))
        have HB5 := Lib.hid (hE5.blk HB7.out.drew.drew (by rw [HPO.out]; simp [hk.symm, hl0.symm]))
        have HE5 : Hid (Ext [kr, kl] o o5 w w5) := ((Ext.of_below HB01.out hw).trans ((HG2.out.2.mono (by simp)).drew.drew)).trans hE5
        have HR5 := Lib.hid hR5
        have km5 := HB5.out.cells
        unfold msgCells at km5
        rw [HOKM.out] at km5
        have hml5 := HB5.out.lt
        have HC5 : Hid ((r.setOther m.from_ (mx + 1) mx).commitM.2.Ok) := HOK7.out.commitM
        have qn5 := next_cell hR5 m.from_ hf0 hf1
        rw [HNX.out] at qn5
        have q65 : w5.cell? ⟨b, 6, none⟩ = some (.int .i64 (r.setOther m.from_ (mx + 1) mx).commitM.2.role) := by
          obtain ⟨_, _, _, _, _, _, _, h9, _⟩ := hR5.open_
          exact h9.c6
        have hlt5 : b < w5.heap.size := by
          obtain ⟨_, _, _, _, _, _, _, h9, _⟩ := hR5.open_
          exact h9.lt
        clear hR5 hE5 km qn qm q6 f1
        generalize hcm : (r.setOther m.from_ (mx + 1) mx).commitM = cm at *
        obtain ⟨done, r5⟩ := cm
        cases done
        · by_cases hr5 : r5.role = 3
          · have hr5' : (r5.role == 3) = true := by simpa using hr5
            have HR53 := Lib.hid hr5
            clear hr5
            by_cases hmxl : mx + 1 ≤ la
            · have HML := Lib.hid hmxl
              have hcm2 := Lib.hid hcm
              clear hcm
              go_wp2_with (go_at_call 56; refine (sendTo56 o5 kr kl b r5 m.from_ _ HR5.out HC5.out (HE5.out.wf hw) hk hkl (by have := HF.out.out; show r5.out.length ≤ 50000; rw [show r5.out = r.out from HOO.out]; omega) hf0 hf1).mono ?_; rintro e w6 ⟨⟨v6, rfl⟩, o6, h6, he6⟩)
              go_returns
              refine ⟨⟨_, rfl⟩, o6, ?_, HE5.out.trans (he6.mono (by simp))⟩
              rw [HAP.out, if_pos HLE.out, ← HMX.out]
              unfold RaftM.onward
              rw [hcm2.out, if_neg (by simp), if_pos ⟨HR53.out, HML.out⟩]
              exact h6
            · have HML := Lib.hid hmxl
              have hcm2 := Lib.hid hcm
              clear hcm
              go_wp2
              go_returns
              refine ⟨⟨_, rfl⟩, o5, ?_, HE5.out⟩
              rw [HAP.out, if_pos HLE.out, ← HMX.out]
              unfold RaftM.onward
              rw [hcm2.out, if_neg (by simp), if_neg (fun h => by have := HML.out; have := h.2; omega)]
              exact HR5.out
          · have hr5' : (r5.role == 3) = false := by simpa using hr5
            have HR53 := Lib.hid hr5
            have hcm2 := Lib.hid hcm
            clear hcm hr5
            go_wp2
            go_returns
            refine ⟨⟨_, rfl⟩, o5, ?_, HE5.out⟩
            rw [HAP.out, if_pos HLE.out, ← HMX.out]
            unfold RaftM.onward
            rw [hcm2.out, if_neg (by simp), if_neg (fun h => HR53.out h.1)]
            exact HR5.out
        · have hcm2 := Lib.hid hcm
          clear hcm qn5 q65
          go_wp2_with (go_at_call 33; refine (sendAll33 o5 kr kl b r5 _ HR5.out HC5.out (HE5.out.wf hw) hk hkl (by have := HF.out.out; show r5.out.length ≤ 40000; rw [show r5.out = r.out from HOO.out]; omega)).mono ?_; rintro e w6 ⟨⟨v6, rfl⟩, o6, h6, he6⟩)
          go_returns
          refine ⟨⟨_, rfl⟩, o6, ?_, HE5.out.trans (he6.mono (by simp))⟩
          rw [HAP.out, if_pos HLE.out, ← HMX.out]
          unfold RaftM.onward
          rw [hcm2.out, if_pos rfl]
          exact h6
      · have HLE := Lib.hid hle
        go_wp2
        go_returns
        refine ⟨⟨_, rfl⟩, o, ?_, (Ext.of_below HB01.out hw).drew⟩
        rw [HAP.out, if_neg (by have := HLE.out; omega)]
        exact HR1.out.drew
  · have hr' : (r.role != 3) = true := by simpa using hrole
    have hap : r.appended m = r := by unfold RaftM.appended; rw [if_pos hrole]
    have HAP := Lib.hid hap
    clear hap hrole
    go_wp2
    go_returns
    exact ⟨⟨_, rfl⟩, o, by rw [HAP.out]; exact HR1.out.drew, (Ext.of_below HB01.out hw).drew⟩
end Go.Proofs.Ytibkmhacpodceaa
