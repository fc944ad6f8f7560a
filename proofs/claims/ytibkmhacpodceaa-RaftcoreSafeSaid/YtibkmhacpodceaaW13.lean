/- Walks: Cut, Reset. -/
import Derived.Test.YtibkmhacpodceaaW12
import Derived.Deep.RegionWith
namespace Go.Proofs.Ytibkmhacpodceaa
open Go.RowKit

/-- the address of 's[k:]' -/
def cutA (A : Option Addr) (c k size : Nat) : Option Addr := if c = k then A else A.map (·.add (k * size))

theorem run_slice_ents (W : World) (A : Option Addr) (n c : Nat) (k : Int) (h0 : 0 ≤ k) (h1 : k ≤ n) :
    (Instr.slice 43 (.slice A n c) (some (.int .i64 k)) none none).run Try.prog W = .ok (.slice (cutA A c k.toNat 4) (n - k.toNat) (c - k.toNat)) W := by
  obtain ⟨i, hi, hz, hs, hb⟩ := parts_ent
  simp [Instr.slice, run_underlying Try.underlying43, Instr.sliceBounds, run_sliceBound, sizeOf, typeInfo, hi, hs, cutA, h0, h1]

def span (o : Own) (n m k : Nat) : Own := fun b => if n ≤ b ∧ b < m then k else o b
theorem span_in (o : Own) {n m k b : Nat} (h : n ≤ b) (h' : b < m) : span o n m k b = k := by simp [span, h, h']
theorem span_out (o : Own) {n m k b : Nat} (h : b < n ∨ m ≤ b) : span o n m k b = o b := by
  unfold span; rw [if_neg (by omega)]
theorem Ext.span_ {S : List Nat} {o o' : Own} {w w' : World} (h : Ext S o o' w w') {n m k : Nat} (hn : w.heap.size ≤ n) (hm : m ≤ w'.heap.size) : Ext S o (span o' n m k) w w' :=
  ⟨h.os, h.tape, h.output, h.size, fun b hb => (span_out o' (by omega)).trans (h.own b hb), fun hw b hb => (span_out o' (by omega)).trans (h.wf hw b hb), h.keep⟩

/-- only cells of block b have been written -/
structure Only (b : Nat) (w w' : World) : Prop where
  os : w'.os = w.os
  tape : w'.tape = w.tape
  output : w'.output = w.output
  size : w'.heap.size = w.heap.size
  block : ∀ k, k ≠ b → w'.heap[k]? = w.heap[k]?
theorem Only.refl (b : Nat) (w : World) : Only b w w := ⟨rfl, rfl, rfl, rfl, fun _ _ => rfl⟩
theorem Only.setCell {b : Nat} {w w' : World} (h : Only b w w') (i : Nat) (u : Value) : Only b w (w'.setCell ⟨b, i, none⟩ u) :=
  ⟨h.os, h.tape, h.output, by simp [h.size], fun k hk => (Below.heap_setCell w' ⟨b, i, none⟩ u k hk).trans (h.block k hk)⟩
theorem Only.drew {b : Nat} {w w' : World} (h : Only b w w') : Only b w w'.drew := ⟨h.os, h.tape, h.output, h.size, h.block⟩

/-- a log whose fields have been written anew: new members, a new row -/
theorem LogAt.rebuild {o : Own} {kl b : Nat} {w w2 w3 W : World} {A5 A6 : Option Addr} {n5 c5 n6 c6 : Nat} {L' : LogM} {cs3 : List Value} (hB : Blk w b 70 cs3) (ho : o b = kl) (h0 : kl ≠ 0) (hw : Wf o w)
    (hb12 : Below w.heap.size w w2) (hb23 : Below w2.heap.size w2 w3) (hI : IntsAt (From w.heap.size) w2 (.slice A5 n5 c5) L'.sM) (hR : RowOf 4 (EntR (fun x => o x = 0 ∧ x < w2.heap.size) w3) 63 (newOwn w2.heap.size) 1 w3 (.slice A6 n6 c6) L'.ents)
    (hW : Only b w3 W) (hBW : Blk W b 70 (logCells L' (.slice A5 n5 c5) (.slice A6 n6 c6))) :
    LogAt (span o w2.heap.size w3.heap.size kl) kl W b L' ∧ Ext [kl] o (span o w2.heap.size w3.heap.size kl) w W := by
  have z1 := hb12.size
  have z2 := hb23.size
  have zb := hB.lt
  have hlow : ∀ x, x < w2.heap.size → span o w2.heap.size w3.heap.size kl x = o x := fun x hx => span_out o (.inl hx)
  have hst : ∀ B : Nat → Prop, (∀ x, B x → x ≠ b) → Stays B B w3 W := fun B h => ⟨by rw [hW.size]; exact Nat.le_refl _, fun x hx _ => ⟨hx, hW.block x (h x hx)⟩⟩
  have he : Ext [kl] o o w W :=
    ⟨hW.os.trans (hb23.os.trans hb12.os), hW.tape.trans (hb23.tape.trans hb12.tape), hW.output.trans (hb23.output.trans hb12.output), by rw [hW.size]; omega, fun _ _ => rfl, fun hw x hx => hw x (by rw [hW.size] at hx; omega),
     fun x hx hn => (hW.block x (by rintro rfl; exact hn (by simp [ho]))).trans ((hb23.block x (by omega)).trans (hb12.block x hx))⟩
  refine ⟨⟨A5, n5, c5, A6, n6, c6, hBW, (hlow b (by omega)).trans ho, ?_, ?_⟩, he.span_ (by omega) (by rw [hW.size]; exact Nat.le_refl _)⟩
  · refine IntsAt.stays hI (Stays.trans (B' := fun x => w.heap.size ≤ x ∧ x < w2.heap.size) ⟨Nat.le_refl _, fun x hx hl => ⟨⟨hx, hl⟩, rfl⟩⟩ (Stays.trans (Stays.of_below hb23) ((hst _ (fun x hx => by omega)).trans (Stays.weak _ fun x hx => ?_))))
    simp only [Of]
    rw [hlow x hx.2]
    exact hw x hx.1
  · refine RowOf.stays hR ⟨by rw [hW.size]; exact Nat.le_refl _, fun x hx hl => ?_⟩ fun a cs h => ?_
    · simp only [Of, newOwn] at hx
      split at hx
      · exact ⟨span_in o (by assumption) hl, hW.block x (by omega)⟩
      · cases hx
    · exact EntR.stays ((hst _ (fun x hx => by rintro rfl; rw [ho] at hx; exact h0 hx.1)).trans (Stays.weak _ fun x hx => (hlow x hx.2).trans hx.1)) h

def CutIs (o : Own) (kl : Nat) (b : Nat) (L : LogM) (i : Int) (w : World) (e : Ending) (w' : World) : Prop :=
  ∃ o', e = .returned (.int .i64 (L.cut i).1) ∧ LogAt o' kl w' b (L.cut i).2 ∧ Ext [kl] o o' w w'

theorem cut_ok {L : LogM} {i : Int} (h1 : L.sI ≤ i) (h2 : i ≤ L.commit) : L.cut i = (0, { L with sI := i, sT := (L.termAt i).getD 0, sM := LogM.membersOf L.sM (L.ents.take (i - L.sI).toNat), ents := L.ents.drop (i - L.sI).toNat }) := by
  unfold LogM.cut; rw [if_neg (by omega)]
theorem cut_bad {L : LogM} {i : Int} (h : i < L.sI ∨ L.commit < i) : L.cut i = (100, L) := by
  unfold LogM.cut; rw [if_pos h]

set_option maxHeartbeats 2000000 in
theorem cut51 (o : Own) (kl : Nat) (b : Nat) (L : LogM) (i : Int) (w : World) (hLg : LogAt o kl w b L) (hok : L.Ok) (hw : Wf o w) (h0 : kl ≠ 0) (hi0 : 0 ≤ i) (hi1 : i ≤ 60000) :
    Calls Try.prog 51 #[.pointer (some ⟨b, 0, none⟩), .int .i64 i] w (CutIs o kl b L i w) := by
  have hl := hok.len
  obtain ⟨A, n, c, A2, n2, c2, hc, hf, hb, hn2, hc2, hM, hE⟩ := hLg.open_
  have HOK := Lib.hid hok
  have HN2 := Lib.hid hn2
  clear hn2 hok
  by_cases hlo : i < L.sI
  · have HB := Lib.hid (cut_bad (.inl hlo))
    go_enter Try.func51, Try.ntmps51
    go_wp2
    go_ret
    exact ⟨o, by rw [HB.out]; rfl, by rw [HB.out]; exact hLg, (Ext.refl _ _ _)⟩
  · by_cases hhi : L.commit < i
    · have HB := Lib.hid (cut_bad (.inr hhi))
      go_enter Try.func51, Try.ntmps51
      go_wp2
      go_ret
      exact ⟨o, by rw [HB.out]; rfl, by rw [HB.out]; exact hLg, (Ext.refl _ _ _)⟩
    · have HC := Lib.hid (cut_ok (L := L) (i := i) (by omega) (by omega))
      have hle : i - L.sI ≤ L.ents.length := by have := HOK.out.c1; omega
      have g1 : 0 ≤ i - L.sI := by omega
      have g2 : i - L.sI ≤ n2 := by have := HN2.out; omega
      have HSL := Lib.hid (fun W => run_slice_ents W A2 n2 c2 (i - L.sI) g1 g2)
      have HCC := Lib.hid hc
      go_enter Try.func51, Try.ntmps51
      go_wp2_with fail
      refine (term47 o kl b L i _ hLg hl HOK.out.i0 HOK.out.i1 hi0 (by omega)).mono ?_
      rintro e w1 ⟨rfl, hb1⟩
      clear hc
      go_wp2_with fail
      refine (membersAt50 o kl b L i _ (hLg.below hb1) hl HOK.out.i0 HOK.out.i1 (by omega) (by omega) HOK.out.data (by have := HOK.out.mlen; omega)).mono ?_
      rintro e w2 ⟨A5, n5, c5, rfl, hI, hb2⟩
      have hb12 : Below w.heap.size w w2 := hb1.trans (hb2.mono hb1.size)
      obtain ⟨k1, f1⟩ := keeps hb12 hb HCC.out hf
      have hbl : b < w2.heap.size := Nat.lt_of_lt_of_le hb hb12.size
      have HI : Hid (IntsAt (From w.heap.size) w2 (.slice A5 n5 c5) (LogM.membersOf L.sM (L.ents.take (i - L.sI).toNat))) := IntsAt.stays hI (Stays.weak _ fun b hb => by have := hb1.size; simp [From] at *; omega)
      have hsl := HSL.out
      have HS : Hid (EntsAt (Of o kl) (fun x => o x = 0 ∧ x < w2.heap.size) w2.drew (.slice (cutA A2 c2 (i - L.sI).toNat 4) (n2 - (i - L.sI).toNat) (c2 - (i - L.sI).toNat)) (L.ents.drop (i - L.sI).toNat)) := by
        have hh := (EntsAt.stays hE.slice (Stays.of_below hb12) (Stays.of_below hb12)).cut (k := (i - L.sI).toNat) (by omega)
        exact EntsAt.stays hh (Stays.refl _ w2).drew (Stays.trans (B' := fun x => o x = 0 ∧ x < w2.heap.size) ⟨Nat.le_refl _, fun x hx hl => ⟨⟨hx, hl⟩, rfl⟩⟩ (Stays.refl _ w2).drew)
      have e1 : IntKind.i64.wrap (i - L.sI) = i - L.sI := IntWalk.i64_in _ (by omega)
      clear hb1 hb2 hI
      go_wp2
      go_region_with (
        (go_at_call 78; refine (clone78 _ _ (Of o kl) (fun x => o x = 0 ∧ x < w2.heap.size) _ HS.out (by rw [List.length_drop]; omega)).mono ?_; rintro e w3 ⟨v3, rfl, hR3, hb3⟩; obtain ⟨A6, c6, rfl, _⟩ := hR3.form; obtain ⟨k3, f3⟩ := keeps hb3 hbl k1 f1))
      all_goals go_wp2
      all_goals
        go_ret
        obtain ⟨A7, n7, c7, A8, n8, c8, hB, ho, _, _⟩ := hLg
        have hb23 : Below w2.heap.size w2 w3 := ⟨hb3.os, hb3.tape, hb3.output, hb3.size, hb3.block⟩
        rw [List.length_drop] at hR3
        have hB3 : Blk w3 b 70 _ := (hB.same (hb12.block b hb)).same (hb23.block b hbl)
        have hr := LogAt.rebuild (L' := { L with sI := i, sT := termVal L i, sM := LogM.membersOf L.sM (L.ents.take (i - L.sI).toNat), ents := L.ents.drop (i - L.sI).toNat }) (W := ((((w3.setCell ⟨b, 3, none⟩ (.slice A6 (L.ents.length - (i - L.sI).toNat) c6)).setCell ⟨b, 0, none⟩ (.int .i64 i)).setCell ⟨b, 1, none⟩ (.int .i64 (termVal L i))).setCell ⟨b, 2, none⟩ (.slice A5 n5 c5)))
          hB ho h0 hw hb12 hb23 HI.out hR3 ((((Only.refl b w3).setCell 3 _).setCell 0 _).setCell 1 _ |>.setCell 2 _) ((((hB3.set_ 3 _).set_ 0 _).set_ 1 _).set_ 2 _)
        exact ⟨_, by rw [HC.out]; rfl, by rw [HC.out]; exact hr.1, hr.2⟩

end Go.Proofs.Ytibkmhacpodceaa
