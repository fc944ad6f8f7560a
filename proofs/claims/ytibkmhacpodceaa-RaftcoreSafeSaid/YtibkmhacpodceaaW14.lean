/- Walks: Reset. -/
import Derived.Test.YtibkmhacpodceaaW13
import Derived.Deep.RegionHeld3
import Derived.Deep.RegionWith
import Derived.Deep.DeepCutAuto
namespace Go.Proofs.Ytibkmhacpodceaa
open Go.RowKit

theorem Only.ext {b : Nat} {w w' : World} (h : Only b w w') {S : List Nat} {o : Own} (hb : o b ∈ S) : Ext S o o w w' :=
  ⟨h.os, h.tape, h.output, by rw [h.size]; exact Nat.le_refl _, fun _ _ => rfl, fun hw x hx => hw x (by rw [h.size] at hx; exact hx), fun x _ hn => h.block x (by rintro rfl; exact hn hb)⟩
theorem Only.stays {b : Nat} {w w' : World} (h : Only b w w') {B : Nat → Prop} (hB : ¬ B b) : Stays B B w w' :=
  ⟨by rw [h.size]; exact Nat.le_refl _, fun x hx _ => ⟨hx, h.block x (by rintro rfl; exact hB hx)⟩⟩

/-- a log whose fields have been written anew: first the row, then new members -/
theorem LogAt.rebuild2 {o : Own} {kl b : Nat} {w w2 w3 w3' w4 W : World} {A5 A6 : Option Addr} {n5 c5 n6 c6 : Nat} {L' : LogM} {cs3 : List Value} (hB : Blk w b 70 cs3) (ho : o b = kl) (h0 : kl ≠ 0) (hw : Wf o w)
    (hb12 : Below w.heap.size w w2) (hb23 : Below w2.heap.size w2 w3) (hO1 : Only b w3 w3') (hb34 : Below w3'.heap.size w3' w4) (hO2 : Only b w4 W)
    (hR : RowOf 4 (EntR (fun x => o x = 0 ∧ x < w2.heap.size) w3) 63 (newOwn w2.heap.size) 1 w3 (.slice A6 n6 c6) L'.ents)
    (hI : IntsAt (From w3'.heap.size) w4 (.slice A5 n5 c5) L'.sM)
    (hBW : Blk W b 70 (logCells L' (.slice A5 n5 c5) (.slice A6 n6 c6))) :
    LogAt (span o w2.heap.size w3.heap.size kl) kl W b L' ∧ Ext [kl] o (span o w2.heap.size w3.heap.size kl) w W := by
  have z1 := hb12.size
  have z2 := hb23.size
  have z3 := hO1.size
  have z4 := hb34.size
  have z5 := hO2.size
  have zb := hB.lt
  have hlow : ∀ x, x < w2.heap.size → span o w2.heap.size w3.heap.size kl x = o x := fun x hx => span_out o (.inl hx)
  have hhigh : ∀ x, w3.heap.size ≤ x → span o w2.heap.size w3.heap.size kl x = o x := fun x hx => span_out o (.inr hx)
  have hin : o b ∈ [kl] := by simp [ho]
  have w2f : Wf o w2 := fun x hx => hw x (by omega)
  have w3f : Wf o w3' := fun x hx => hw x (by omega)
  have he : Ext [kl] o o w W := ((((Ext.of_below hb12 hw).mono (S' := [kl]) (by intro k hk; exact hk)).trans (Ext.of_below hb23 w2f)).trans (hO1.ext hin)).trans ((Ext.of_below hb34 w3f).trans (hO2.ext hin))
  have hst : ∀ B : Nat → Prop, ¬ B b → Stays B B w3 W := fun B h => (hO1.stays h).trans ((Stays.of_below hb34).trans (hO2.stays h))
  refine ⟨⟨A5, n5, c5, A6, n6, c6, hBW, (hlow b (by omega)).trans ho, ?_, ?_⟩, he.span_ (by omega) (by omega)⟩
  · refine IntsAt.stays hI ((hO2.stays (by simp only [From]; omega)).trans (Stays.weak _ fun x hx => ?_))
    simp only [From] at hx
    simp only [Of]
    rw [hhigh x (by omega)]
    exact hw x (by omega)
  · refine RowOf.stays hR ⟨by omega, fun x hx hl => ?_⟩ fun a cs h => ?_
    · simp only [Of, newOwn] at hx
      split at hx
      · exact ⟨span_in o (by assumption) hl, (hO2.block x (by omega)).trans ((hb34.block x (by omega)).trans (hO1.block x (by omega)))⟩
      · cases hx
    · exact EntR.stays ((hst _ (fun hx => by rw [ho] at hx; exact h0 hx.1)).trans (Stays.weak _ fun x hx => (hlow x hx.2).trans hx.1)) h

def ResetIs (o : Own) (kl : Nat) (b : Nat) (L : LogM) (i t : Int) (m : List Int) (w : World) (e : Ending) (w' : World) : Prop :=
  ∃ o', e = .returned (.int .i64 (L.reset i t m).1) ∧ LogAt o' kl w' b (L.reset i t m).2 ∧ Ext [kl] o o' w w'

/-- the middle of Reset: the row has been laid -/
def ResetMid (o : Own) (b g0 : Nat) (L : LogM) (A : Option Addr) (n c : Nat) (es : List Ent) (cs0 : List Value) (w2 wx : World) : Prop :=
  ∃ w3 A6 n6 c6, Below w2.heap.size w2 w3 ∧ RowOf 4 (EntR (fun x => o x = 0 ∧ x < w2.heap.size) w3) 63 (newOwn w2.heap.size) 1 w3 (.slice A6 n6 c6) es ∧ Only b w3 wx ∧
    Blk wx b 70 [.int .i64 L.sI, .int .i64 L.sT, .slice A n c, .slice A6 n6 c6, .int .i64 L.commit] ∧ Blk wx g0 60 cs0

theorem reset_form {L : LogM} {i t : Int} {m : List Int} (h : pointB i t m = false) : L.reset i t m = (102, L) := by unfold LogM.reset; rw [if_pos h]
theorem reset_index {L : LogM} {i t : Int} {m : List Int} (h : pointB i t m = true) (h2 : i ≤ L.commit) : L.reset i t m = (100, L) := by unfold LogM.reset; rw [if_neg (by simp [h]), if_pos h2]
theorem reset_keep {L : LogM} {i t : Int} {m : List Int} (h : pointB i t m = true) (h2 : ¬ i ≤ L.commit) (h3 : L.termAt i = some t) : L.reset i t m = (0, { sI := i, sT := t, sM := m, ents := L.ents.drop (i - L.sI).toNat, commit := i }) := by
  unfold LogM.reset; rw [if_neg (by simp [h]), if_neg h2, if_pos h3]
theorem reset_drop {L : LogM} {i t : Int} {m : List Int} (h : pointB i t m = true) (h2 : ¬ i ≤ L.commit) (h3 : L.termAt i ≠ some t) : L.reset i t m = (0, { sI := i, sT := t, sM := m, ents := [], commit := i }) := by
  unfold LogM.reset; rw [if_neg (by simp [h]), if_neg h2, if_neg h3]

theorem termAt_range {L : LogM} {i t : Int} (h : L.termAt i = some t) : L.sI ≤ i ∧ i - L.sI ≤ L.ents.length := by
  unfold LogM.termAt at h
  split at h
  · omega
  · rcases entry_cases L i with ⟨_, h2⟩ | ⟨_, _, h3⟩ | ⟨h1, h2, _⟩
    · rw [h2] at h; cases h
    · rw [h3] at h; cases h
    · omega

set_option maxHeartbeats 4000000 in
theorem reset74 (o : Own) (kl : Nat) (b : Nat) (L : LogM) (i t : Int) (m : List Int) (A0 : Option Addr) (n0 c0 : Nat) (B : Nat → Prop) (w : World) (hLg : LogAt o kl w b L) (hok : L.Ok) (hw : Wf o w) (h0 : kl ≠ 0) (hi0 : 0 ≤ i) (hi1 : i ≤ 60000)
    (hm : IntsAt B w (.slice A0 n0 c0) m) (hml : m.length ≤ 30000) (hBb : ¬ B b) :
    Calls Try.prog 74 #[.pointer (some ⟨b, 0, none⟩), .agg #[.int .i64 i, .int .i64 t, .slice A0 n0 c0]] w (ResetIs o kl b L i t m w) := by
  have hl := hok.len
  obtain ⟨A, n, c, A2, n2, c2, hc, hf, hb, hn2, hc2, hM, hE⟩ := hLg.open_
  have HOK := Lib.hid hok
  have HN2 := Lib.hid hn2
  have HCC := Lib.hid hc
  have HB0 : Hid (Blk (w.alloc (.cells #[.int .i64 i, .int .i64 t, .slice A0 n0 c0] 60)) w.heap.size 60 [.int .i64 i, .int .i64 t, .slice A0 n0 c0]) := Blk.new w 60 _
  have HBa : Hid (Below w.heap.size w (w.alloc (.cells #[.int .i64 i, .int .i64 t, .slice A0 n0 c0] 60))) := (Below.refl _ _).alloc (Nat.le_refl _) _
  clear hn2 hok hc
  go_enter Try.func74, Try.ntmps74
  go_wp2_with fail
  refine (pright88 i t _ A0 n0 c0 rfl m B _ (IntsAt.stays hm ((Stays.refl _ w).alloc _)) hml).mono ?_
  rintro e w1 ⟨rfl, hb1⟩
  have hb01 : Below w.heap.size w w1 := HBa.out.trans (hb1.mono (by simp))
  have B1 : Blk w1 w.heap.size 60 _ := HB0.out.same (hb1.block w.heap.size (by simp))
  have k1 := B1.cells
  have f1 := B1.frozens
  have s1 := B1.lt
  obtain ⟨k2, f2⟩ := keeps hb01 hb HCC.out hf
  have hbl : b < w1.heap.size := Nat.lt_of_lt_of_le hb hb01.size
  have HB1 := Lib.hid B1
  clear hb1 B1
  cases hp : pointB i t m
  · have HR := Lib.hid (reset_form (L := L) hp)
    clear hp
    go_wp2
    go_ret
    exact ⟨o, by rw [HR.out]; rfl, by rw [HR.out]; exact hLg.below hb01, Ext.of_below hb01 hw⟩
  · by_cases hle : i ≤ L.commit
    · have HR := Lib.hid (reset_index (L := L) hp hle)
      clear hp
      go_wp2
      go_quiet (fail)
      go_wp2
      go_ret
      exact ⟨o, by rw [HR.out]; rfl, by rw [HR.out]; exact hLg.below (below_drewN hb01 _), Ext.of_below (below_drewN hb01 _) hw⟩
    · have HP := Lib.hid hp
      have hlt : L.commit < i := by omega
      clear hp
      go_wp2
      go_quiet (fail)
      go_wp2_with fail
      refine (term47 o kl b L i _ (hLg.below (below_drewN hb01 _)) hl HOK.out.i0 HOK.out.i1 hi0 (by omega)).mono ?_
      rintro e w2 ⟨rfl, hb2⟩
      have hb02 : Below w.heap.size w w2 := (below_drewN hb01 _).trans (hb2.mono hb01.size)
      have B2 : Blk w2 w.heap.size 60 _ := HB1.out.same (hb2.block w.heap.size s1)
      have s2 := B2.lt
      have hbl2 : b < w2.heap.size := Nat.lt_of_lt_of_le hb hb02.size
      obtain ⟨k3, f3⟩ := keeps hb02 hb HCC.out hf
      have HB2 := Lib.hid B2
      have k4 := B2.cells
      have f4 := B2.frozens
      clear B2 hb2 k1 f1 k2 f2
      have HR : Hid ((L.reset i t m) = (0, { sI := i, sT := t, sM := m, ents := (L.reset i t m).2.ents, commit := i })) := by
        unfold Hid
        by_cases hk : L.termAt i = some t
        · rw [reset_keep HP.out (by omega) hk]
        · rw [reset_drop HP.out (by omega) hk]
      have hB : Blk w b 70 [.int .i64 L.sI, .int .i64 L.sT, .slice A n c, .slice A2 n2 c2, .int .i64 L.commit] := by
        obtain ⟨A7, n7, c7, A8, n8, c8, hB, ho, _, _⟩ := hLg
        have q1 := hB.cell 3
        have q2 := hB.cell 2
        rw [HCC.out] at q1 q2
        simp only [logCells, List.getElem?_cons_succ, List.getElem?_cons_zero, Option.some.injEq, Value.slice.injEq] at q1 q2
        obtain ⟨rfl, rfl, rfl⟩ := q1
        obtain ⟨rfl, rfl, rfl⟩ := q2
        exact hB
      have HB := Lib.hid hB
      have ho : Hid (o b = kl) := by obtain ⟨_, _, _, _, _, _, _, ho, _⟩ := hLg; exact ho
      clear hB
      have hbne : b ≠ w.heap.size := by omega
      by_cases hkeep : L.termAt i = some t
      · obtain ⟨hcode, hval⟩ := termCode_some hkeep
        obtain ⟨r1, r2⟩ := termAt_range hkeep
        have g1 : 0 ≤ i - L.sI := by omega
        have g2 : i - L.sI ≤ n2 := by have := HN2.out; omega
        have hsl := fun W => run_slice_ents W A2 n2 c2 (i - L.sI) g1 g2
        have HS : Hid (EntsAt (Of o kl) (fun x => o x = 0 ∧ x < w2.heap.size) w2.drew (.slice (cutA A2 c2 (i - L.sI).toNat 4) (n2 - (i - L.sI).toNat) (c2 - (i - L.sI).toNat)) (L.ents.drop (i - L.sI).toNat)) := by
          have hh := (EntsAt.stays hE.slice (Stays.of_below hb02) (Stays.of_below hb02)).cut (k := (i - L.sI).toNat) (by omega)
          exact EntsAt.stays hh (Stays.refl _ w2).drew (Stays.trans (B' := fun x => o x = 0 ∧ x < w2.heap.size) ⟨Nat.le_refl _, fun x hx hl => ⟨⟨hx, hl⟩, rfl⟩⟩ (Stays.refl _ w2).drew)
        have HES : Hid ((L.reset i t m).2.ents = L.ents.drop (i - L.sI).toNat) := by unfold Hid; rw [reset_keep HP.out (by omega) hkeep]
        have e1 : IntKind.i64.wrap (i - L.sI) = i - L.sI := IntWalk.i64_in _ (by omega)
        clear hkeep
        rw [hcode, hval]
        clear hcode hval
        go_upto_region 7 with fail
        go_cut [] (fun wx => Hid (ResetMid o b w.heap.size L A n c (L.reset i t m).2.ents [.int .i64 i, .int .i64 t, .slice A0 n0 c0] w2 wx))
        case first =>
          go_region_with (
            (go_at_call 78; refine (clone78 _ _ (Of o kl) (fun x => o x = 0 ∧ x < w2.heap.size) _ HS.out (by rw [List.length_drop]; omega)).mono ?_; rintro e w3 ⟨v3, rfl, hR3, hb3⟩; obtain ⟨A6, c6, rfl, _⟩ := hR3.form; obtain ⟨k5, f5⟩ := keeps hb3 hbl2 k3 f3; obtain ⟨k6, f6⟩ := keeps hb3 s2 k4 f4; have hs3 : w2.heap.size ≤ w3.heap.size := hb3.size))
          all_goals
            go_wp2_with fail
            go_meet
            have hb23 : Below w2.heap.size w2 w3 := ⟨hb3.os, hb3.tape, hb3.output, hb3.size, hb3.block⟩
            rw [List.length_drop] at hR3
            refine ⟨w3, A6, L.ents.length - (i - L.sI).toNat, c6, hb23, ?_, (Only.refl b w3).setCell 3 _, ?_, ?_⟩
            · rw [HES.out]; exact hR3
            · exact ((HB.out.same (hb02.block b hb)).same (hb23.block b hbl2)).set_ 3 _
            · exact (HB2.out.same (hb23.block _ s2)).far (by exact Ne.symm hbne) _
        case rest =>
          obtain ⟨w3, A6, n6, c6, hb23, hR3, hO1, hBx, hG⟩ := hcut.out
          clear hcut
          have kb := hBx.cells
          have fb := hBx.frozens
          have kg := hG.cells
          have fg := hG.frozens
          have sb := hBx.lt
          have sg := hG.lt
          have HBx := Lib.hid hBx
          have HR3 := Lib.hid hR3
          have HM : Hid (IntsAt B wc.drew (.slice A0 n0 c0) m) := IntsAt.stays hm ((Stays.of_below hb02).trans ((Stays.of_below hb23).trans ((hO1.stays hBb).drew)))
          clear hBx hG hR3
          go_wp2
          go_region_held3 (fun w' => w'.cell? ⟨w.heap.size, 0, none⟩ = some (.int .i64 i) ∧ w'.cell? ⟨w.heap.size, 1, none⟩ = some (.int .i64 t) ∧ w'.cell? ⟨w.heap.size, 2, none⟩ = some (.slice A0 n0 c0)) (first | (simp [go_sem, *]; done))
            (first
              | (go_at_call 52; refine (copied52 i t A0 n0 c0 m B _ HM.out hml).mono ?_; rintro e w4 ⟨A7, n7, c7, rfl, hI4, hb4⟩; obtain ⟨k5, f5⟩ := keeps hb4 sb kb fb; obtain ⟨k6, f6⟩ := keeps hb4 sg kg fg; have hs4 : wc.heap.size ≤ w4.heap.size := hb4.size))
          all_goals go_wp2
          all_goals
            go_ret
            have hBW := ((((HBx.out.drew.same (hb4.block b sb)).set_ 0 (.int .i64 i)).set_ 1 (.int .i64 t)).set_ 2 (.slice A7 n7 c7)).set_ 4 (.int .i64 i)
            have hr := LogAt.rebuild2 (L' := { sI := i, sT := t, sM := m, ents := (L.reset i t m).2.ents, commit := i }) HB.out ho.out h0 hw hb02 hb23 hO1.drew hb4 (((((Only.refl b w4).setCell 0 (.int .i64 i)).setCell 1 (.int .i64 t)).setCell 2 (.slice A7 n7 c7)).setCell 4 (.int .i64 i)) HR3.out hI4 hBW
            exact ⟨_, by rw [HR.out]; rfl, by rw [HR.out]; exact hr.1, hr.2⟩
      · have HES : Hid ((L.reset i t m).2.ents = []) := by unfold Hid; rw [reset_drop HP.out (by omega) hkeep]
        have hmid : ResetMid o b w.heap.size L A n c (L.reset i t m).2.ents [.int .i64 i, .int .i64 t, .slice A0 n0 c0] w2 (w2.setCell ⟨b, 3, none⟩ (.slice none 0 0)) :=
          ⟨w2, none, 0, 0, Below.refl _ _, by rw [HES.out]; exact RowOf.nil_, (Only.refl b w2).setCell 3 _, (HB.out.same (hb02.block b hb)).set_ 3 _, HB2.out.far (by exact Ne.symm hbne) _⟩
        have HMID := Lib.hid hmid
        clear hmid
        have hg : (termCode L i == 0) = false ∨ ((termCode L i == 0) = true ∧ (termVal L i == t) = false) := by
          cases hq : L.termAt i with
          | none => left; rw [(termCode_none hq).1]; rfl
          | some t' =>
            right
            rw [(termCode_some hq).1, (termCode_some hq).2]
            refine ⟨rfl, ?_⟩
            rw [beq_eq_false_iff_ne]
            rintro rfl
            exact hkeep hq
        clear hkeep
        generalize termCode L i = cd at *
        generalize termVal L i = vl at *
        rcases hg with hg | ⟨hg1, hg2⟩
        all_goals
          go_upto_region 9 with fail
          generalize w2.setCell ⟨b, 3, none⟩ (.slice none 0 0) = wc at *
          obtain ⟨w3, A6, n6, c6, hb23, hR3, hO1, hBx, hG⟩ := HMID.out
          have kb := hBx.cells
          have fb := hBx.frozens
          have kg := hG.cells
          have fg := hG.frozens
          have sb := hBx.lt
          have sg := hG.lt
          have HBx := Lib.hid hBx
          have HR3 := Lib.hid hR3
          have HM : Hid (IntsAt B wc.drew (.slice A0 n0 c0) m) := IntsAt.stays hm ((Stays.of_below hb02).trans ((Stays.of_below hb23).trans ((hO1.stays hBb).drew)))
          clear hBx hG hR3
          go_wp2
          go_region_held3 (fun w' => w'.cell? ⟨w.heap.size, 0, none⟩ = some (.int .i64 i) ∧ w'.cell? ⟨w.heap.size, 1, none⟩ = some (.int .i64 t) ∧ w'.cell? ⟨w.heap.size, 2, none⟩ = some (.slice A0 n0 c0)) (first | (simp [go_sem, *]; done))
            (first
              | (go_at_call 52; refine (copied52 i t A0 n0 c0 m B _ HM.out hml).mono ?_; rintro e w4 ⟨A7, n7, c7, rfl, hI4, hb4⟩; obtain ⟨k5, f5⟩ := keeps hb4 sb kb fb; obtain ⟨k6, f6⟩ := keeps hb4 sg kg fg; have hs4 : wc.heap.size ≤ w4.heap.size := hb4.size))
          all_goals go_wp2
          all_goals
            go_ret
            have hBW := ((((HBx.out.drew.same (hb4.block b sb)).set_ 0 (.int .i64 i)).set_ 1 (.int .i64 t)).set_ 2 (.slice A7 n7 c7)).set_ 4 (.int .i64 i)
            have hr := LogAt.rebuild2 (L' := { sI := i, sT := t, sM := m, ents := (L.reset i t m).2.ents, commit := i }) HB.out ho.out h0 hw hb02 hb23 hO1.drew hb4 (((((Only.refl b w4).setCell 0 (.int .i64 i)).setCell 1 (.int .i64 t)).setCell 2 (.slice A7 n7 c7)).setCell 4 (.int .i64 i)) HR3.out hI4 hBW
            exact ⟨_, by rw [HR.out]; rfl, by rw [HR.out]; exact hr.1, hr.2⟩

end Go.Proofs.Ytibkmhacpodceaa
