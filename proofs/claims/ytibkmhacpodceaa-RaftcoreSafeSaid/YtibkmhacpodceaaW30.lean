/- Walks: append. -/
import Derived.Test.YtibkmhacpodceaaW29
import Derived.Test.YtibkmhacpodceaaW15
namespace Go.Proofs.Ytibkmhacpodceaa
open Go.RowKit

theorem lay_len {L L' : LogM} : ∀ {es : List Ent}, L.lay es = some L' → L'.ents.length ≤ L.ents.length + es.length
  | [], h => by
    simp only [LogM.lay, Option.some.injEq] at h
    subst h; simp
  | e :: es, h => by
    unfold LogM.lay at h
    split at h
    · split at h
      · have := lay_len h
        simp only [List.length_cons]; omega
      · split at h
        · cases h
        · rw [← Option.some.inj h]
          show (L.ents.take (e.index - L.sI - 1).toNat ++ (e :: es)).length ≤ _
          rw [List.length_append, List.length_take]
          omega
    · rw [← Option.some.inj h]
      show (L.ents.take (e.index - L.sI - 1).toNat ++ (e :: es)).length ≤ _
      rw [List.length_append, List.length_take]
      omega
theorem offerAt_len {L : LogM} {i : Int} {es : List Ent} : (L.offerAt i es).2.2.2.ents.length ≤ L.ents.length + es.length := by
  unfold LogM.offerAt
  split
  · rename_i h; exact lay_len h
  · simp
theorem offer_len {L : LogM} {i t : Int} {es : List Ent} : (L.offer i t es).2.2.2.ents.length ≤ L.ents.length + es.length := by
  unfold LogM.offer
  split
  · split
    · have := offerAt_len (L := L) (i := L.sI) (es := es.drop (min (L.sI - i) es.length).toNat)
      have hd : (es.drop (min (L.sI - i) es.length).toNat).length ≤ es.length := by rw [List.length_drop]; omega
      dsimp only
      split
      · omega
      · split
        · simp
        · omega
    · split
      · exact offerAt_len
      · simp
  · simp

theorem RaftAt.logAt {o : Own} {kr kl : Nat} {w : World} {b lb : Nat} {r : RaftM} (h : RaftAt o kr kl w b r) (c4 : w.cell? ⟨b, 4, none⟩ = some (.pointer (some ⟨lb, 0, none⟩))) : LogAt o kl w lb r.log := by
  obtain ⟨lb', _, _, _, _, _, _, ⟨_, _, _, _, e4, _⟩, _, hL, _⟩ := h.open_
  rw [c4] at e4
  simp only [Option.some.injEq, Value.pointer.injEq, Addr.mk.injEq, and_true] at e4
  subst e4
  exact hL

set_option maxRecDepth 100000 in
set_option maxHeartbeats 8000000 in
theorem append42 (o : Own) (kr kl : Nat) (b : Nat) (r : RaftM) (m : Msg) (A n c A2 n2 c2 A3 n3 c3) (w : World) (h : RaftAt o kr kl w b r) (hok : r.log.Ok) (hel : r.log.ents.length ≤ 10000) (hlen : r.out.length ≤ 50000) (hi0 : 0 ≤ m.index) (hi1 : m.index ≤ 60000) (hME : MsgEnts m.entries)
    (hE : EntsAt (Of o 0) (Of o 0) w (.slice A n c) m.entries) (hw : Wf o w) (hk : kr ≠ 0) (hkl : kr ≠ kl) (hl0 : kl ≠ 0) :
    Calls Try.prog 42 #[.pointer (some ⟨b, 0, none⟩), .agg #[.int .i64 m.kind, .int .i64 m.group, .int .i64 m.from_, .int .i64 m.to_, .int .i64 m.term, .int .i64 m.index, .int .i64 m.logTerm, .int .i64 m.commit, .bool m.ok, .slice A n c, .slice A2 n2 c2, .slice A3 n3 c3]] w
      (WantIs o kr kl b (r.append m) w) := by
  have H := Lib.hid h
  have HOK := Lib.hid hok
  have HME := Lib.hid hME
  have HE := Lib.hid hE
  clear h hok hME hE
  go_enter Try.func42, Try.ntmps42
  have hbA : Below w.heap.size w (w.alloc (.cells (msgCells m (.slice A n c) (.slice A2 n2 c2) (.slice A3 n3 c3)).toArray 48)) := (Below.refl _ _).alloc (Nat.le_refl _) _
  have HBA := Lib.hid hbA
  have HB0 := Lib.hid (Blk.new w 48 (msgCells m (.slice A n c) (.slice A2 n2 c2) (.slice A3 n3 c3)))
  clear hbA
  go_wp2_with fail
  refine (hear71 o kr kl b r m.from_ _ (H.out.below HBA.out hw) hk hkl).mono ?_
  rintro e w1 (⟨hr3, rfl, hx⟩ | ⟨hr3, rfl, hR1, hE1⟩)
  · obtain rfl := hx.symm
    have happ : r.append m = r := by unfold RaftM.append; rw [if_pos hr3]
    have HAPP := Lib.hid happ
    clear hx happ hr3
    go_wp2
    go_returns
    exact ⟨⟨_, rfl⟩, o, by rw [HAPP.out]; exact H.out.below HBA.out hw, Ext.of_below HBA.out hw⟩
  · have happ : r.append m = (r.hear m.from_).offered m (r.log.offer m.index m.logTerm m.entries) := by unfold RaftM.append; rw [if_neg hr3]
    have HAPP := Lib.hid happ
    have hpo : o w.heap.size = 0 := hw _ (Nat.le_refl _)
    have HB1 := Lib.hid (hE1.blk HB0.out (by rw [hpo]; simpa using hk.symm))
    have HR1 := Lib.hid hR1
    have HE1 : Hid (Ext [kr] o o w w1) := (Ext.of_below HBA.out hw).trans hE1
    have HEN : Hid (EntsAt (Of o 0) (Of o 0) w1 (.slice A n c) m.entries) := EntsAt.stays HE.out (HE1.out.stays (by simpa using hk.symm)) (HE1.out.stays (by simpa using hk.symm))
    have HW1 : Hid (Wf o w1) := HE1.out.wf hw
    obtain ⟨lb, As, ns, cs, Ao, no, co, ⟨d0, d1, d2, d3, d4, d5, d6, d7, d8, d27, f, hlt⟩, ho, hL, _⟩ := hR1.open_
    have HL : Hid (LogAt o kl w1 lb r.log) := hL
    have km := HB1.out.cells
    unfold msgCells at km
    have hml := HB1.out.lt
    have HPO := Lib.hid hpo
    clear happ hr3 hR1 hE1 hL hpo HB0 d0 d1 d2 d3 d5 d6 d7 d8 d27
    go_wp2
    -- BLOCK offer
    have hS : (fun w' : World => w'.cell? ⟨b, 4, none⟩ = some (.pointer (some ⟨lb, 0, none⟩)) ∧ (∀ i, w'.cell? ⟨w.heap.size, i, none⟩ = [Value.int .i64 m.kind, .int .i64 m.group, .int .i64 m.from_, .int .i64 m.to_, .int .i64 m.term, .int .i64 m.index, .int .i64 m.logTerm, .int .i64 m.commit, .bool m.ok, .slice A n c, .slice A2 n2 c2, .slice A3 n3 c3][i]?)) w1.drew := ⟨d4, km⟩
    refine wp_region_T 17 (fun w' : World => w'.cell? ⟨b, 4, none⟩ = some (.pointer (some ⟨lb, 0, none⟩)) ∧ (∀ i, w'.cell? ⟨w.heap.size, i, none⟩ = [Value.int .i64 m.kind, .int .i64 m.group, .int .i64 m.from_, .int .i64 m.to_, .int .i64 m.term, .int .i64 m.index, .int .i64 m.logTerm, .int .i64 m.commit, .bool m.ok, .slice A n c, .slice A2 n2 c2, .slice A3 n3 c3][i]?)) (by kernel_rfl) ?_
    refine anyT_takeL (i := 0) (v := ?vf0) rfl (by kernel_rfl) (by kernel_rfl) (by kernel_rfl) (by kernel_rfl) (by kernel_rfl) (fun _ _ _ h => h) (Or.inl ⟨by rfl, fun wS hSw => ?hyf0⟩) hS ?ref0
    case hyf0 => (dsimp only at hSw; obtain ⟨hS1, hS2⟩ := hSw; go_simp; try with_reducible rfl)
    try simp only [Act.put, List.setIfInBounds_toArray, List.set_cons_zero, List.set_cons_succ]
    refine anyT_takeL (i := 1) (v := ?vf1) rfl (by kernel_rfl) (by kernel_rfl) (by kernel_rfl) (by kernel_rfl) (by kernel_rfl) (fun _ _ _ h => h) (Or.inl ⟨by rfl, fun wS hSw => ?hyf1⟩) hS ?ref1
    case hyf1 => (dsimp only at hSw; obtain ⟨hS1, hS2⟩ := hSw; go_simp; try with_reducible rfl)
    try simp only [Act.put, List.setIfInBounds_toArray, List.set_cons_zero, List.set_cons_succ]
    refine anyT_takeL (i := 2) (v := ?vf2) rfl (by kernel_rfl) (by kernel_rfl) (by kernel_rfl) (by kernel_rfl) (by kernel_rfl) (fun _ _ _ h => h) (Or.inl ⟨by rfl, fun wS hSw => ?hyf2⟩) hS ?ref2
    case hyf2 => (dsimp only at hSw; obtain ⟨hS1, hS2⟩ := hSw; go_simp; try with_reducible rfl)
    try simp only [Act.put, List.setIfInBounds_toArray, List.set_cons_zero, List.set_cons_succ]
    refine anyT_takeL (i := 3) (v := ?vf3) rfl (by kernel_rfl) (by kernel_rfl) (by kernel_rfl) (by kernel_rfl) (by kernel_rfl) (fun _ _ _ h => h) (Or.inl ⟨by rfl, fun wS hSw => ?hyf3⟩) hS ?ref3
    case hyf3 => (dsimp only at hSw; obtain ⟨hS1, hS2⟩ := hSw; go_simp; try with_reducible rfl)
    try simp only [Act.put, List.setIfInBounds_toArray, List.set_cons_zero, List.set_cons_succ]
    refine anyT_takeL (i := 4) (v := ?vf4) rfl (by kernel_rfl) (by kernel_rfl) (by kernel_rfl) (by kernel_rfl) (by kernel_rfl) (fun _ _ _ h => h) (Or.inl ⟨by rfl, fun wS hSw => ?hyf4⟩) hS ?ref4
    case hyf4 => (dsimp only at hSw; obtain ⟨hS1, hS2⟩ := hSw; go_simp; try with_reducible rfl)
    try simp only [Act.put, List.setIfInBounds_toArray, List.set_cons_zero, List.set_cons_succ]
    refine anyT_takeL (i := 5) (v := ?vf5) rfl (by kernel_rfl) (by kernel_rfl) (by kernel_rfl) (by kernel_rfl) (by kernel_rfl) (fun _ _ _ h => h) (Or.inl ⟨by rfl, fun wS hSw => ?hyf5⟩) hS ?ref5
    case hyf5 => (dsimp only at hSw; obtain ⟨hS1, hS2⟩ := hSw; go_simp; try with_reducible rfl)
    try simp only [Act.put, List.setIfInBounds_toArray, List.set_cons_zero, List.set_cons_succ]
    refine anyT_takeL (i := 6) (v := ?vf6) rfl (by kernel_rfl) (by kernel_rfl) (by kernel_rfl) (by kernel_rfl) (by kernel_rfl) (fun _ _ _ h => h) (Or.inl ⟨by rfl, fun wS hSw => ?hyf6⟩) hS ?ref6
    case hyf6 => (dsimp only at hSw; obtain ⟨hS1, hS2⟩ := hSw; go_simp; try with_reducible rfl)
    try simp only [Act.put, List.setIfInBounds_toArray, List.set_cons_zero, List.set_cons_succ]
    refine anyT_takeL (i := 7) (v := ?vf7) rfl (by kernel_rfl) (by kernel_rfl) (by kernel_rfl) (by kernel_rfl) (by kernel_rfl) (fun _ _ _ h => h) (Or.inl ⟨by rfl, fun wS hSw => ?hyf7⟩) hS ?ref7
    case hyf7 => (dsimp only at hSw; obtain ⟨hS1, hS2⟩ := hSw; go_simp; try with_reducible rfl)
    try simp only [Act.put, List.setIfInBounds_toArray, List.set_cons_zero, List.set_cons_succ]
    refine anyT_takeL (i := 8) (v := ?vf8) rfl (by kernel_rfl) (by kernel_rfl) (by kernel_rfl) (by kernel_rfl) (by kernel_rfl) (fun _ _ _ h => h) (Or.inl ⟨by rfl, fun wS hSw => ?hyf8⟩) hS ?ref8
    case hyf8 => (dsimp only at hSw; obtain ⟨hS1, hS2⟩ := hSw; go_simp; try with_reducible rfl)
    try simp only [Act.put, List.setIfInBounds_toArray, List.set_cons_zero, List.set_cons_succ]
    refine anyT_takeL (i := 9) (v := ?vf9) rfl (by kernel_rfl) (by kernel_rfl) (by kernel_rfl) (by kernel_rfl) (by kernel_rfl) (fun _ _ _ h => h) (Or.inl ⟨by rfl, fun wS hSw => ?hyf9⟩) hS ?ref9
    case hyf9 => (dsimp only at hSw; obtain ⟨hS1, hS2⟩ := hSw; go_simp; try with_reducible rfl)
    try simp only [Act.put, List.setIfInBounds_toArray, List.set_cons_zero, List.set_cons_succ]
    refine anyT_oneL (i := 10) rfl (by kernel_rfl) ?_
    intro K hK
    go_simp
    refine (offer72 o kl lb r.log m.index m.logTerm m.entries A n c (Of o 0) (Of o 0) _ (show LogAt o kl w1.drew lb r.log from HL.out) HOK.out (show Wf o w1.drew from HW1.out) hl0 hi0 hi1 (show EntsAt (Of o 0) (Of o 0) w1.drew (.slice A n c) m.entries from EntsAt.stays HEN.out (Stays.refl _ w1).drew (Stays.refl _ w1).drew) HME.out).mono ?_
    rintro e w2 ⟨o2, rfl, hL2, he2⟩
    have HE2 := Lib.hid he2.undrew
    have HR2 := Lib.hid (HR1.out.putLog d4 hkl hl0 HE2.out hL2)
    have HW2 : Hid (Wf o2 w2) := HE2.out.wf HW1.out
    have HB2 := Lib.hid (HE2.out.blk HB1.out (by rw [HPO.out]; simpa using hl0.symm))
    have y4 : w2.cell? ⟨b, 4, none⟩ = some (.pointer (some ⟨lb, 0, none⟩)) := (HE2.out.cell (p := ⟨b, 4, none⟩) hlt (by show o b ∉ [kl]; rw [ho]; simpa using hkl)).trans d4
    have ym : ∀ i, w2.cell? ⟨w.heap.size, i, none⟩ = [Value.int .i64 m.kind, .int .i64 m.group, .int .i64 m.from_, .int .i64 m.to_, .int .i64 m.term, .int .i64 m.index, .int .i64 m.logTerm, .int .i64 m.commit, .bool m.ok, .slice A n c, .slice A2 n2 c2, .slice A3 n3 c3][i]? := HB2.out.cells
    have hml2 := HB2.out.lt
    have hlt2 : b < w2.heap.size := Nat.lt_of_lt_of_le hlt HE2.out.size
    clear hL2 he2
    try dsimp only
    clear hS
    have hS : (fun w' : World => w'.cell? ⟨b, 4, none⟩ = some (.pointer (some ⟨lb, 0, none⟩)) ∧ (∀ i, w'.cell? ⟨w.heap.size, i, none⟩ = [Value.int .i64 m.kind, .int .i64 m.group, .int .i64 m.from_, .int .i64 m.to_, .int .i64 m.term, .int .i64 m.index, .int .i64 m.logTerm, .int .i64 m.commit, .bool m.ok, .slice A n c, .slice A2 n2 c2, .slice A3 n3 c3][i]?)) w2 := ⟨y4, ym⟩
    refine hK _ _ (.inr hS) ?_
    clear hK K
    try simp only [Act.put, List.setIfInBounds_toArray, List.set_cons_zero, List.set_cons_succ]
    refine anyT_takeL (i := 11) (v := ?vf11) rfl (by kernel_rfl) (by kernel_rfl) (by kernel_rfl) (by kernel_rfl) (by kernel_rfl) (fun _ _ _ h => h) (Or.inl ⟨by rfl, fun wS hSw => ?hyf11⟩) hS ?ref11
    case hyf11 => (dsimp only at hSw; obtain ⟨hS1, hS2⟩ := hSw; go_simp; try with_reducible rfl)
    try simp only [Act.put, List.setIfInBounds_toArray, List.set_cons_zero, List.set_cons_succ]
    refine anyT_takeL (i := 12) (v := ?vf12) rfl (by kernel_rfl) (by kernel_rfl) (by kernel_rfl) (by kernel_rfl) (by kernel_rfl) (fun _ _ _ h => h) (Or.inl ⟨by rfl, fun wS hSw => ?hyf12⟩) hS ?ref12
    case hyf12 => (dsimp only at hSw; obtain ⟨hS1, hS2⟩ := hSw; go_simp; try with_reducible rfl)
    try simp only [Act.put, List.setIfInBounds_toArray, List.set_cons_zero, List.set_cons_succ]
    refine anyT_takeL (i := 13) (v := ?vf13) rfl (by kernel_rfl) (by kernel_rfl) (by kernel_rfl) (by kernel_rfl) (by kernel_rfl) (fun _ _ _ h => h) (Or.inl ⟨by rfl, fun wS hSw => ?hyf13⟩) hS ?ref13
    case hyf13 => (dsimp only at hSw; obtain ⟨hS1, hS2⟩ := hSw; go_simp; try with_reducible rfl)
    try simp only [Act.put, List.setIfInBounds_toArray, List.set_cons_zero, List.set_cons_succ]
    refine anyT_takeL (i := 14) (v := ?vf14) rfl (by kernel_rfl) (by kernel_rfl) (by kernel_rfl) (by kernel_rfl) (by kernel_rfl) (fun _ _ _ h => h) (Or.inl ⟨by rfl, fun wS hSw => ?hyf14⟩) hS ?ref14
    case hyf14 => (dsimp only at hSw; obtain ⟨hS1, hS2⟩ := hSw; go_simp; try with_reducible rfl)
    try simp only [Act.put, List.setIfInBounds_toArray, List.set_cons_zero, List.set_cons_succ]
    refine anyT_takeL (i := 15) (v := ?vf15) rfl (by kernel_rfl) (by kernel_rfl) (by kernel_rfl) (by kernel_rfl) (by kernel_rfl) (fun _ _ _ h => h) (Or.inl ⟨by rfl, fun wS hSw => ?hyf15⟩) hS ?ref15
    case hyf15 => (dsimp only at hSw; obtain ⟨hS1, hS2⟩ := hSw; go_simp; try with_reducible rfl)
    try simp only [Act.put, List.setIfInBounds_toArray, List.set_cons_zero, List.set_cons_succ]
    refine anyT_takeL (i := 16) (v := ?vf16) rfl (by kernel_rfl) (by kernel_rfl) (by kernel_rfl) (by kernel_rfl) (by kernel_rfl) (fun _ _ _ h => h) (Or.inl ⟨by rfl, fun wS hSw => ?hyf16⟩) hS ?ref16
    case hyf16 => (dsimp only at hSw; obtain ⟨hS1, hS2⟩ := hSw; go_simp; try with_reducible rfl)
    try simp only [Act.put, List.setIfInBounds_toArray, List.set_cons_zero, List.set_cons_succ]
    refine anyT_oneL (i := 17) rfl (by kernel_rfl) ?_
    intro K hK
    go_simp
    try dsimp only
    refine hK _ _ (.inl rfl) ?_
    clear hK K hS
    try simp only [Act.put, List.setIfInBounds_toArray, List.set_cons_zero, List.set_cons_succ]
    refine anyT_done (by kernel_rfl) ?_ _
    try clear hS
    -- END
    have HOFL : Hid ((r.log.offer m.index m.logTerm m.entries).2.2.2.ents.length ≤ 20000) := by
      have := offer_len (L := r.log) (i := m.index) (t := m.logTerm) (es := m.entries)
      have := HME.out.len
      unfold Hid; omega
    generalize hq : r.log.offer m.index m.logTerm m.entries = q at *
    obtain ⟨la, okb, er, L⟩ := q
    clear hq
    by_cases her : er = 0
    · have her' : (er != 0) = false := by simpa using her
      have HER := Lib.hid her
      clear her
      cases okb
      · go_wp2_with fail
        refine (send59 o2 kr kl b _ { kind := 4, to_ := m.from_, ok := false, index := la } 0 0 0 none 0 0 none 0 0 none 0 0 _ HR2.out HW2.out hk hkl hlen SliceOf.nil_ SliceOf.nil_ SliceOf.nil_).mono ?_
        rintro e w3 ⟨⟨v3, rfl⟩, o3, h3, he3⟩
        have H3 := Lib.hid h3
        have HE3 := Lib.hid he3
        clear h3 he3
        go_wp2
        go_returns
        refine ⟨⟨_, rfl⟩, o3, ?_, ((HE1.out.mono (by simp)).trans (HE2.out.mono (by simp))).trans (HE3.out.mono (by simp))⟩
        rw [HAPP.out]
        unfold RaftM.offered
        rw [if_neg (by simpa using HER.out)]
        exact H3.out
      · go_wp2
        -- BLOCK settle
        have hS : (fun w' : World => w'.cell? ⟨b, 4, none⟩ = some (.pointer (some ⟨lb, 0, none⟩)) ∧ (∀ i, w'.cell? ⟨w.heap.size, i, none⟩ = [Value.int .i64 m.kind, .int .i64 m.group, .int .i64 m.from_, .int .i64 m.to_, .int .i64 m.term, .int .i64 m.index, .int .i64 m.logTerm, .int .i64 m.commit, .bool m.ok, .slice A n c, .slice A2 n2 c2, .slice A3 n3 c3][i]?)) w2.drew := ⟨y4, ym⟩
        refine wp_region_T 8 (fun w' : World => w'.cell? ⟨b, 4, none⟩ = some (.pointer (some ⟨lb, 0, none⟩)) ∧ (∀ i, w'.cell? ⟨w.heap.size, i, none⟩ = [Value.int .i64 m.kind, .int .i64 m.group, .int .i64 m.from_, .int .i64 m.to_, .int .i64 m.term, .int .i64 m.index, .int .i64 m.logTerm, .int .i64 m.commit, .bool m.ok, .slice A n c, .slice A2 n2 c2, .slice A3 n3 c3][i]?)) (by kernel_rfl) ?_
        refine anyT_takeL (i := 0) (v := ?vs0) rfl (by kernel_rfl) (by kernel_rfl) (by kernel_rfl) (by kernel_rfl) (by kernel_rfl) (fun _ _ _ h => h) (Or.inl ⟨by rfl, fun wS hSw => ?hys0⟩) hS ?res0
        case hys0 => (dsimp only at hSw; obtain ⟨hS1, hS2⟩ := hSw; go_simp; try with_reducible rfl)
        try simp only [Act.put, List.setIfInBounds_toArray, List.set_cons_zero, List.set_cons_succ]
        refine anyT_takeL (i := 1) (v := ?vs1) rfl (by kernel_rfl) (by kernel_rfl) (by kernel_rfl) (by kernel_rfl) (by kernel_rfl) (fun _ _ _ h => h) (Or.inl ⟨by rfl, fun wS hSw => ?hys1⟩) hS ?res1
        case hys1 => (dsimp only at hSw; obtain ⟨hS1, hS2⟩ := hSw; go_simp; try with_reducible rfl)
        try simp only [Act.put, List.setIfInBounds_toArray, List.set_cons_zero, List.set_cons_succ]
        refine anyT_takeL (i := 2) (v := ?vs2) rfl (by kernel_rfl) (by kernel_rfl) (by kernel_rfl) (by kernel_rfl) (by kernel_rfl) (fun _ _ _ h => h) (Or.inl ⟨by rfl, fun wS hSw => ?hys2⟩) hS ?res2
        case hys2 => (dsimp only at hSw; obtain ⟨hS1, hS2⟩ := hSw; go_simp; try with_reducible rfl)
        try simp only [Act.put, List.setIfInBounds_toArray, List.set_cons_zero, List.set_cons_succ]
        refine anyT_takeL (i := 3) (v := ?vs3) rfl (by kernel_rfl) (by kernel_rfl) (by kernel_rfl) (by kernel_rfl) (by kernel_rfl) (fun _ _ _ h => h) (Or.inl ⟨by rfl, fun wS hSw => ?hys3⟩) hS ?res3
        case hys3 => (dsimp only at hSw; obtain ⟨hS1, hS2⟩ := hSw; go_simp; try with_reducible rfl)
        try simp only [Act.put, List.setIfInBounds_toArray, List.set_cons_zero, List.set_cons_succ]
        refine anyT_takeL (i := 4) (v := ?vs4) rfl (by kernel_rfl) (by kernel_rfl) (by kernel_rfl) (by kernel_rfl) (by kernel_rfl) (fun _ _ _ h => h) (Or.inl ⟨by rfl, fun wS hSw => ?hys4⟩) hS ?res4
        case hys4 => (dsimp only at hSw; obtain ⟨hS1, hS2⟩ := hSw; go_simp; try with_reducible rfl)
        try simp only [Act.put, List.setIfInBounds_toArray, List.set_cons_zero, List.set_cons_succ]
        refine anyT_takeL (i := 5) (v := ?vs5) rfl (by kernel_rfl) (by kernel_rfl) (by kernel_rfl) (by kernel_rfl) (by kernel_rfl) (fun _ _ _ h => h) (Or.inl ⟨by rfl, fun wS hSw => ?hys5⟩) hS ?res5
        case hys5 => (dsimp only at hSw; obtain ⟨hS1, hS2⟩ := hSw; go_simp; try with_reducible rfl)
        try simp only [Act.put, List.setIfInBounds_toArray, List.set_cons_zero, List.set_cons_succ]
        refine anyT_takeL (i := 6) (v := ?vs6) rfl (by kernel_rfl) (by kernel_rfl) (by kernel_rfl) (by kernel_rfl) (by kernel_rfl) (fun _ _ _ h => h) (Or.inl ⟨by rfl, fun wS hSw => ?hys6⟩) hS ?res6
        case hys6 => (dsimp only at hSw; obtain ⟨hS1, hS2⟩ := hSw; go_simp; try with_reducible rfl)
        try simp only [Act.put, List.setIfInBounds_toArray, List.set_cons_zero, List.set_cons_succ]
        refine anyT_takeL (i := 7) (v := ?vs7) rfl (by kernel_rfl) (by kernel_rfl) (by kernel_rfl) (by kernel_rfl) (by kernel_rfl) (fun _ _ _ h => h) (Or.inl ⟨by rfl, fun wS hSw => ?hys7⟩) hS ?res7
        case hys7 => (dsimp only at hSw; obtain ⟨hS1, hS2⟩ := hSw; go_simp; try with_reducible rfl)
        try simp only [Act.put, List.setIfInBounds_toArray, List.set_cons_zero, List.set_cons_succ]
        refine anyT_oneL (i := 8) rfl (by kernel_rfl) ?_
        intro K hK
        go_simp
        have hmin : (if la < m.commit then la else m.commit) = min m.commit la := by split <;> omega
        rw [hmin]
        clear hmin
        refine (settle73 o2 kl lb L (min m.commit la) _ (show LogAt o2 kl w2.drew lb L from HR2.out.logAt y4) HOFL.out hl0 (show Wf o2 w2.drew from HW2.out)).mono ?_
        rintro e w4 ⟨⟨vn, rfl⟩, hL4, he4⟩
        have HE4 := Lib.hid he4.undrew
        have HR4 := Lib.hid (HR2.out.putLog y4 hkl hl0 HE4.out hL4)
        have HW4 : Hid (Wf o2 w4) := HE4.out.wf HW2.out
        have HPO2 : Hid (o2 w.heap.size = 0) := (HE2.out.own _ hml).trans HPO.out
        have HB4 := Lib.hid (HE4.out.blk HB2.out (by rw [HPO2.out]; simpa using hl0.symm))
        have xm : ∀ i, w4.cell? ⟨w.heap.size, i, none⟩ = [Value.int .i64 m.kind, .int .i64 m.group, .int .i64 m.from_, .int .i64 m.to_, .int .i64 m.term, .int .i64 m.index, .int .i64 m.logTerm, .int .i64 m.commit, .bool m.ok, .slice A n c, .slice A2 n2 c2, .slice A3 n3 c3][i]? := HB4.out.cells
        have hml4 := HB4.out.lt
        clear hL4 he4 y4 ym
        try dsimp only
        refine hK _ _ (.inl rfl) ?_
        clear hK K hS
        try simp only [Act.put, List.setIfInBounds_toArray, List.set_cons_zero, List.set_cons_succ]
        refine anyT_done (by kernel_rfl) ?_ _
        try clear hS
        -- END
        go_wp2_with fail
        refine (send59 o2 kr kl b _ { kind := 4, to_ := m.from_, ok := true, index := la } 0 0 0 none 0 0 none 0 0 none 0 0 _ HR4.out HW4.out hk hkl hlen SliceOf.nil_ SliceOf.nil_ SliceOf.nil_).mono ?_
        rintro e w3 ⟨⟨v3, rfl⟩, o3, h3, he3⟩
        have H3 := Lib.hid h3
        have HE3 := Lib.hid he3
        clear h3 he3
        go_wp2
        go_returns
        refine ⟨⟨_, rfl⟩, o3, ?_, (((HE1.out.mono (by simp)).trans (HE2.out.mono (by simp))).trans (HE4.out.mono (by simp))).trans (HE3.out.mono (by simp))⟩
        rw [HAPP.out]
        unfold RaftM.offered
        rw [if_neg (by simpa using HER.out)]
        exact H3.out
    · have her' : (er != 0) = true := by simpa using her
      have HER := Lib.hid her
      clear her
      go_wp2
      go_returns
      refine ⟨⟨_, rfl⟩, o2, ?_, (HE1.out.mono (by simp)).trans (HE2.out.mono (by simp))⟩
      rw [HAPP.out]
      unfold RaftM.offered
      rw [if_pos HER.out]
      exact HR2.out
end Go.Proofs.Ytibkmhacpodceaa
