/- Walks: commit. -/
import Derived.Test.YtibkmhacpodceaaW20
import Derived.Deep.DeepCutAuto
namespace Go.Proofs.Ytibkmhacpodceaa
open Go.RowKit

theorem fresh (o : Own) (n k1 k2 : Nat) : ∃ k, (∀ b, b < n → o b < k) ∧ k1 < k ∧ k2 < k := by
  induction n with
  | zero => exact ⟨k1 + k2 + 1, fun b hb => absurd hb (Nat.not_lt_zero _), by omega, by omega⟩
  | succ n ih =>
    obtain ⟨k, h1, h2, h3⟩ := ih
    refine ⟨k + o n + 1, fun b hb => ?_, by omega, by omega⟩
    rcases Nat.lt_succ_iff_lt_or_eq.1 hb with hb | rfl
    · have := h1 b hb; omega
    · omega

theorem Ext.shrink {S S' : List Nat} {o o' : Own} {w w' : World} (h : Ext S' o o' w w') (hs : ∀ b, b < w.heap.size → o b ∈ S' → o b ∈ S) : Ext S o o' w w' :=
  ⟨h.os, h.tape, h.output, h.size, h.own, h.wf, fun b hb hn => h.keep b hb fun hk => hn (hs b hb hk)⟩

theorem RaftAt.putLog {o o' : Own} {kr kl : Nat} {w w' : World} {b lb : Nat} {r : RaftM} {L : LogM} (h : RaftAt o kr kl w b r) (c4 : w.cell? ⟨b, 4, none⟩ = some (.pointer (some ⟨lb, 0, none⟩))) (hkl : kr ≠ kl) (hl0 : kl ≠ 0)
    (he : Ext [kl] o o' w w') (hL : LogAt o' kl w' lb L) : RaftAt o' kr kl w' b { r with log := L } := by
  obtain ⟨lb', A, n, c, A2, n2, c2, hb, ho, _, hs, hr, h6, h7⟩ := h
  have q := hb.cells 4
  rw [c4] at q
  simp only [raftCells, List.cons_append, List.getElem?_cons_succ, List.getElem?_cons_zero, Option.some.injEq, Value.pointer.injEq, Addr.mk.injEq, and_true] at q
  subst q
  exact ⟨lb, A, n, c, A2, n2, c2, he.blk hb (by rw [ho]; simpa using hkl), (he.own b hb.lt).trans ho, hL, BytesAt.stays hs (he.stays (by simpa using hl0.symm)), hr.stays (he.stays (by simpa using hkl)) fun _ _ => MsgR.stays (he.stays (by simpa using hl0.symm)), h6, h7⟩

theorem Ext.undrew {S : List Nat} {o o' : Own} {w w' : World} (h : Ext S o o' w.drew w') : Ext S o o' w w' := ⟨h.os, h.tape, h.output, h.size, h.own, h.wf, h.keep⟩

/-! settled, from n on -/
def RaftM.from_ (r : RaftM) (n : Int) : Option Int := r.settled (n - r.log.commit).toNat n
def RaftM.good (r : RaftM) (n : Int) : Prop := (r.log.termAt n).getD 0 = r.term ∧ r.majority (fun p => decide (n ≤ r.match_ p)) = true
instance (r : RaftM) (n : Int) : Decidable (r.good n) := inferInstanceAs (Decidable (_ ∧ _))
theorem from_end {r : RaftM} {n : Int} (h : n ≤ r.log.commit) : r.from_ n = none := by
  unfold RaftM.from_
  rw [show (n - r.log.commit).toNat = 0 by omega]; rfl
theorem from_good {r : RaftM} {n : Int} (h : r.log.commit < n) (hg : r.good n) : r.from_ n = some n := by
  unfold RaftM.from_
  obtain ⟨k, hk⟩ : ∃ k, (n - r.log.commit).toNat = k + 1 := ⟨(n - r.log.commit).toNat - 1, by omega⟩
  rw [hk, RaftM.settled, if_neg (by omega)]
  exact if_pos hg
theorem from_bad {r : RaftM} {n : Int} (h : r.log.commit < n) (hg : ¬ r.good n) : r.from_ n = r.from_ (n - 1) := by
  unfold RaftM.from_
  obtain ⟨k, hk⟩ : ∃ k, (n - r.log.commit).toNat = k + 1 := ⟨(n - r.log.commit).toNat - 1, by omega⟩
  rw [hk, RaftM.settled, if_neg (by omega), show (n - 1 - r.log.commit).toNat = k by omega]
  exact if_neg hg

theorem LogM.Ok.settle {L : LogM} (h : L.Ok) (i : Int) : (L.settle i).Ok := by
  unfold LogM.settle
  split
  · exact h
  · rename_i hi
    rw [h.last1] at hi
    exact ⟨h.i0, h.i1, h.t0, h.t1, h.len, by have := h.c0; simp only; omega, by have := h.c1; simp only; omega, h.mem, h.mlen, h.ent⟩
theorem settle_members (L : LogM) (i : Int) : (L.settle i).members = L.members := by unfold LogM.settle; split <;> rfl
theorem RaftM.Ok.settle {r : RaftM} (h : r.Ok) (i : Int) : ({ r with log := r.log.settle i } : RaftM).Ok :=
  ⟨h.log.settle i, h.id0, h.id1, h.t0, h.t1, by rw [settle_members]; exact h.mem, by rw [settle_members]; exact h.mlen, h.next0, h.next1, h.match0, h.match1, h.state, h.e0, h.e1⟩

theorem get_set_pair (l : List (Int × Int)) (i j : Nat) (x : Int × Int) : ((l.set i x)[j]?).getD (0, 0) = if i = j ∧ i < l.length then x else (l[j]?).getD (0, 0) := by
  rw [List.getElem?_set]
  by_cases hij : i = j
  · subst hij
    by_cases hl : i < l.length
    · simp [hl]
    · simp [hl]
  · simp [hij]
theorem RaftM.Ok.mark {r : RaftM} (h : r.Ok) : r.mark.Ok := by
  have l1 := h.log.last1
  have i0 := h.log.i0
  have i1 := h.log.i1
  have ln := h.log.len
  refine ⟨h.log, h.id0, h.id1, h.t0, h.t1, h.mem, h.mlen, fun q => ?_, fun q => ?_, fun q => ?_, fun q => ?_, h.state, h.e0, h.e1⟩
  all_goals
    unfold RaftM.mark
    simp only [RaftM.next, RaftM.match_, get_set_pair]
    split
    · first
        | exact h.next0 _
        | exact h.next1 _
        | (simp only; omega)
    · first
        | exact h.next0 _
        | exact h.next1 _
        | exact h.match0 _
        | exact h.match1 _

structure CommitInv (o : Own) (kr kl kb b pr : Nat) (w : World) (r1 : RaftM) (g : Nat) (n : Int) (done : Bool) (r2 : RaftM) (o' : Own) (wr : World) : Prop where
  bn : Blk wr g 3 [.int .i64 n]
  og : o' g = kb
  raft : RaftAt o' kr kl wr b r2
  bp : Blk wr pr 36 [.pointer (some ⟨b, 0, none⟩)]
  op : o' pr = 0
  ext : Ext [kr, kl, kb] o o' w wr
  c : r1.log.commit ≤ n
  l : n ≤ r1.log.last.1
  is : (done = false ∧ r2 = r1 ∧ r1.from_ n = r1.from_ r1.log.last.1) ∨ (done = true ∧ r1.from_ r1.log.last.1 = some (n + 1) ∧ r2 = { r1 with log := r1.log.settle (n + 1) } ∧ r1.log.commit < n + 1 ∧ n + 1 ≤ r1.log.last.1)

theorem CommitInv.next {o o1 : Own} {kr kl kb b pr : Nat} {w wx : World} {m r2 : RaftM} {n : Int} {done : Bool} (hR : RaftAt o1 kr kl wx b r2) (hp : Blk wx pr 36 [.pointer (some ⟨b, 0, none⟩)]) (op : o1 pr = 0) (he : Ext [kr, kl, kb] o o1 w wx)
    (hc : m.log.commit ≤ n) (hl : n ≤ m.log.last.1)
    (is : (done = false ∧ r2 = m ∧ m.from_ n = m.from_ m.log.last.1) ∨ (done = true ∧ m.from_ m.log.last.1 = some (n + 1) ∧ r2 = { m with log := m.log.settle (n + 1) } ∧ m.log.commit < n + 1 ∧ n + 1 ≤ m.log.last.1)) :
    ∃ r2 o', CommitInv o kr kl kb b pr w m wx.heap.size n done r2 o' (wx.alloc (.cells #[.int .i64 n] 3)) := by
  have hA : Ext [] o1 (upd o1 wx.heap.size kb) wx (wx.alloc (.cells #[.int .i64 n] 3)) := ((Ext.refl [] o1 wx).alloc _).give (Nat.le_refl _) (by simp)
  have hne : pr ≠ wx.heap.size := Nat.ne_of_lt hp.lt
  refine ⟨r2, upd o1 wx.heap.size kb, Blk.new wx 3 [.int .i64 n], upd_same _ _ _, hR.ext hA (by simp) (by simp) (by simp), hp.alloc _, ?_, he.trans (hA.mono (by simp)), hc, hl, is⟩
  rw [upd_other _ hne]; exact op

def CommitIs (o : Own) (kr kl : Nat) (b : Nat) (r : RaftM) (w : World) (e : Ending) (w' : World) : Prop :=
  ∃ o', e = .returned (.bool r.commitM.1) ∧ RaftAt o' kr kl w' b r.commitM.2 ∧ Ext [kr, kl] o o' w w'

def boxInt (v : Value) (w : World) : Int := match v with
  | .pointer (some a) => (match w.cell? a with | some (.int _ n) => n | _ => 0)
  | _ => 0

set_option maxHeartbeats 4000000 in
theorem commit70 (o : Own) (kr kl : Nat) (b : Nat) (r : RaftM) (w : World) (h : RaftAt o kr kl w b r) (hok : r.Ok) (hw : Wf o w) (hk : kr ≠ 0) (hkl : kr ≠ kl) (hl0 : kl ≠ 0) :
    Calls Try.prog 70 #[.pointer (some ⟨b, 0, none⟩)] w (CommitIs o kr kl b r w) := by
  have H := Lib.hid h
  have HOK := Lib.hid hok
  obtain ⟨lb, As, ns, cs, Ao, no, co, ⟨c0, c1, c2, c3, c4, c5, c6, c7, c8, c27, f, hlt⟩, ho, hL, hs, _, h6, h7, _⟩ := h.open_
  have HL := Lib.hid hL
  have H67 := Lib.hid (And.intro h6 h7)
  have hid0 := hok.id0
  have hid1 := hok.id1
  have hid2 : 0 ≤ r.id := by omega
  have hid3 : r.id < 6 := by omega
  have hmc := match_cell h r.id hid0 hid1
  have hll := hok.log.len
  obtain ⟨kb, hkb, hkb1, hkb2⟩ := fresh o w.heap.size kr kl
  clear h hok hL hs h6 h7
  go_enter Try.func70, Try.ntmps70
  have hbA : Below w.heap.size w (w.alloc (.cells #[.pointer (some ⟨b, 0, none⟩)] 36)) := (Below.refl _ _).alloc (Nat.le_refl _) _
  have HLA := Lib.hid (HL.out.below hbA)
  go_wp2_with fail
  refine (last28 o kl lb r.log _ HLA.out hll).mono ?_
  rintro e w1 ⟨rfl, hb1⟩
  have HBX := Lib.hid ((Blk.new w 36 [.pointer (some ⟨b, 0, none⟩)]).same (hb1.block w.heap.size (by simp)))
  have hbB : Below w.heap.size w w1 := hbA.trans (hb1.mono (by simp))
  clear hb1 hbA
  go_wp2
  refine (fun (HH : ∀ W : World, Below w.heap.size w W → Blk W w.heap.size 36 [.pointer (some ⟨b, 0, none⟩)] → Code.wp Try.prog _ _ _ W) => HH _ ?_ ?_) ?_
  · exact hbB
  · exact HBX.out
  clear hbB HBX
  intro W hbw hBX
  have kW := hBX.cells
  have k1 : W.cell? ⟨b, 1, none⟩ = some (.int .i64 r.id) := (hbw.cell (p := ⟨b, 1, none⟩) hlt).trans c1
  have kf : ∀ i, W.frozen? ⟨b, i, none⟩ = false := fun i => (hbw.frozen (p := ⟨b, i, none⟩) hlt).trans (f i)
  have km : W.cell? ⟨b, 15 + r.id.toNat * 2 + 1, none⟩ = some (.int .i64 (r.match_ r.id)) := (hbw.cell (p := ⟨b, 15 + r.id.toNat * 2 + 1, none⟩) hlt).trans hmc
  have hbW : b < W.heap.size := Nat.lt_of_lt_of_le hlt hbw.size
  have HBX := Lib.hid hBX
  clear hBX hmc c0 c1 c2 c3 c4 c5 c6 c7 c8 c27
  -- BLOCK mark
  have hS : (fun w' : World => (∀ i, w'.cell? ⟨w.heap.size, i, none⟩ = [Value.pointer (some ⟨b, 0, none⟩)][i]?) ∧ w'.cell? ⟨b, 1, none⟩ = some (.int .i64 r.id)) W.drew := ⟨kW, k1⟩
  refine wp_region_T 10 (fun w' : World => (∀ i, w'.cell? ⟨w.heap.size, i, none⟩ = [Value.pointer (some ⟨b, 0, none⟩)][i]?) ∧ w'.cell? ⟨b, 1, none⟩ = some (.int .i64 r.id)) (by kernel_rfl) ?_
  refine anyT_takeL (i := 0) (v := ?vm0) rfl (by kernel_rfl) (by kernel_rfl) (by kernel_rfl) (by kernel_rfl) (by kernel_rfl) (fun _ _ _ h => h) (Or.inl ⟨by rfl, fun wS hSw => ?hym0⟩) hS ?rem0
  case hym0 => (dsimp only at hSw; obtain ⟨hS1, hS2⟩ := hSw; go_simp; try with_reducible rfl)
  try simp only [Act.put, List.setIfInBounds_toArray, List.set_cons_zero, List.set_cons_succ]
  refine anyT_takeL (i := 1) (v := ?vm1) rfl (by kernel_rfl) (by kernel_rfl) (by kernel_rfl) (by kernel_rfl) (by kernel_rfl) (fun _ _ _ h => h) (Or.inl ⟨by rfl, fun wS hSw => ?hym1⟩) hS ?rem1
  case hym1 => (dsimp only at hSw; obtain ⟨hS1, hS2⟩ := hSw; go_simp; try with_reducible rfl)
  try simp only [Act.put, List.setIfInBounds_toArray, List.set_cons_zero, List.set_cons_succ]
  refine anyT_takeL (i := 2) (v := ?vm2) rfl (by kernel_rfl) (by kernel_rfl) (by kernel_rfl) (by kernel_rfl) (by kernel_rfl) (fun _ _ _ h => h) (Or.inl ⟨by rfl, fun wS hSw => ?hym2⟩) hS ?rem2
  case hym2 => (dsimp only at hSw; obtain ⟨hS1, hS2⟩ := hSw; go_simp; try with_reducible rfl)
  try simp only [Act.put, List.setIfInBounds_toArray, List.set_cons_zero, List.set_cons_succ]
  refine anyT_takeL (i := 3) (v := ?vm3) rfl (by kernel_rfl) (by kernel_rfl) (by kernel_rfl) (by kernel_rfl) (by kernel_rfl) (fun _ _ _ h => h) (Or.inl ⟨by rfl, fun wS hSw => ?hym3⟩) hS ?rem3
  case hym3 => (dsimp only at hSw; obtain ⟨hS1, hS2⟩ := hSw; go_simp; try with_reducible rfl)
  try simp only [Act.put, List.setIfInBounds_toArray, List.set_cons_zero, List.set_cons_succ]
  refine anyT_takeL (i := 4) (v := ?vm4) rfl (by kernel_rfl) (by kernel_rfl) (by kernel_rfl) (by kernel_rfl) (by kernel_rfl) (fun _ _ _ h => h) (Or.inl ⟨by rfl, fun wS hSw => ?hym4⟩) hS ?rem4
  case hym4 => (dsimp only at hSw; obtain ⟨hS1, hS2⟩ := hSw; go_simp; try with_reducible rfl)
  try simp only [Act.put, List.setIfInBounds_toArray, List.set_cons_zero, List.set_cons_succ]
  refine anyT_takeL (i := 5) (v := ?vm5) rfl (by kernel_rfl) (by kernel_rfl) (by kernel_rfl) (by kernel_rfl) (by kernel_rfl) (fun _ _ _ h => h) (Or.inl ⟨by rfl, fun wS hSw => ?hym5⟩) hS ?rem5
  case hym5 => (dsimp only at hSw; obtain ⟨hS1, hS2⟩ := hSw; go_simp; try with_reducible rfl)
  try simp only [Act.put, List.setIfInBounds_toArray, List.set_cons_zero, List.set_cons_succ]
  refine anyT_takeL (i := 6) (v := ?vm6) rfl (by kernel_rfl) (by kernel_rfl) (by kernel_rfl) (by kernel_rfl) (by kernel_rfl) (fun _ _ _ h => h) (Or.inl ⟨by rfl, fun wS hSw => ?hym6⟩) hS ?rem6
  case hym6 => (dsimp only at hSw; obtain ⟨hS1, hS2⟩ := hSw; go_simp; try with_reducible rfl)
  try simp only [Act.put, List.setIfInBounds_toArray, List.set_cons_zero, List.set_cons_succ]
  refine anyT_takeL (i := 7) (v := ?vm7) rfl (by kernel_rfl) (by kernel_rfl) (by kernel_rfl) (by kernel_rfl) (by kernel_rfl) (fun _ _ _ h => h) (Or.inl ⟨by rfl, fun wS hSw => ?hym7⟩) hS ?rem7
  case hym7 => (dsimp only at hSw; obtain ⟨hS1, hS2⟩ := hSw; go_simp; try with_reducible rfl)
  try simp only [Act.put, List.setIfInBounds_toArray, List.set_cons_zero, List.set_cons_succ]
  refine anyT_takeL (i := 8) (v := ?vm8) rfl (by kernel_rfl) (by kernel_rfl) (by kernel_rfl) (by kernel_rfl) (by kernel_rfl) (fun _ _ _ h => h) (Or.inl ⟨by rfl, fun wS hSw => ?hym8⟩) hS ?rem8
  case hym8 => (dsimp only at hSw; obtain ⟨hS1, hS2⟩ := hSw; go_simp; try with_reducible rfl)
  try simp only [Act.put, List.setIfInBounds_toArray, List.set_cons_zero, List.set_cons_succ]
  refine anyT_takeL (i := 9) (v := ?vm9) rfl (by kernel_rfl) (by kernel_rfl) (by kernel_rfl) (by kernel_rfl) (by kernel_rfl) (fun _ _ _ h => h) (Or.inl ⟨by rfl, fun wS hSw => ?hym9⟩) hS ?rem9
  case hym9 => (dsimp only at hSw; obtain ⟨hS1, hS2⟩ := hSw; go_simp; try with_reducible rfl)
  try simp only [Act.put, List.setIfInBounds_toArray, List.set_cons_zero, List.set_cons_succ]
  refine anyT_oneL (i := 10) rfl (by kernel_rfl) ?_
  intro K hK
  go_simp
  try dsimp only
  refine hK _ _ (.inl rfl) ?_
  clear hK K
  try simp only [Act.put, List.setIfInBounds_toArray, List.set_cons_zero, List.set_cons_succ]
  refine anyT_done (by kernel_rfl) ?_ _
  -- END
  have hmk := (H.out.below hbw.drew hw).field hk hkl (r' := r.mark) (15 + r.id.toNat * 2 + 1) (.int .i64 r.log.last.1) (fun _ _ _ => raftCells_setMatch H67.out.1 H67.out.2 r.id.toNat (by omega) _) rfl rfl rfl H67.out.1 (by simp [RaftM.mark, H67.out.2])
  have hpne : w.heap.size ≠ b := by omega
  refine (fun (HH : ∀ V : World, RaftAt o kr kl V b r.mark → Ext [kr] o o w V → Blk V w.heap.size 36 [.pointer (some ⟨b, 0, none⟩)] → Exit.then _ _ _ _ V) => HH _ ?_ ?_ ?_) ?_
  · exact hmk.1
  · exact (Ext.of_below hbw.drew hw).trans hmk.2
  · exact HBX.out.drew.far hpne _
  clear hmk kW k1 kf km hbW HBX hbw hS
  intro V hV heV hBV
  have HOKM := Lib.hid HOK.out.mark
  have HLL : Hid (r.mark.log.last.1 = r.log.last.1) := rfl
  have HL1 := Lib.hid HOK.out.log.last1
  have hl2 := HOK.out.log.c0
  have hl3 := HOK.out.log.c1
  have hl4 := HOK.out.log.i0
  have hl5 := HOK.out.log.i1
  have HRES : Hid (r.commitM = match r.mark.from_ r.mark.log.last.1 with | none => (false, r.mark.leave) | some n => (true, ({ r.mark with log := r.mark.log.settle n } : RaftM).leave)) := rfl
  have HMC : Hid (r.mark.log.commit = r.log.commit) := rfl
  generalize hmm : r.mark = m at *
  generalize r.log.last.1 = last at HL1 HLL ⊢
  have hl1a : r.log.sI + r.log.ents.length ≤ last := Int.le_of_eq HL1.out.symm
  have hl1b : last ≤ r.log.sI + r.log.ents.length := Int.le_of_eq HL1.out
  generalize r.log.last.2 = lt
  go_wp2
  have hI0 : ∃ r2 o', CommitInv o kr kl kb b w.heap.size w m V.heap.size last false r2 o' (V.alloc (.cells #[.int .i64 last] 3)) := by
    have hA : Ext [] o (upd o V.heap.size kb) V (V.alloc (.cells #[.int .i64 last] 3)) := ((Ext.refl [] o V).alloc _).give (Nat.le_refl _) (by simp)
    have hsz := heV.size
    refine ⟨m, upd o V.heap.size kb, Blk.new V 3 _, upd_same _ _ _, hV.ext hA (by simp) (by simp) (by simp), hBV.alloc _, ?_, ((heV.mono (by simp)).trans (hA.mono (by simp))), by rw [HMC.out]; omega, by rw [HLL.out]; exact Int.le_refl _, .inl ⟨rfl, rfl, by rw [HLL.out]⟩⟩
    rw [upd_other _ (Nat.ne_of_lt hBV.lt)]; exact hw _ (Nat.le_refl _)
  have HI0 := Lib.hid hI0
  clear hI0 hV hBV heV
  go_loopw [6, 5] (fun s6 s5 wr => ∃ (g : Nat) (n : Int) (done : Bool), s6 = .pointer (some ⟨g, 0, none⟩) ∧ s5 = .bool done ∧ wr.cell? ⟨g, 0, none⟩ = some (.int .i64 n) ∧ 0 ≤ n ∧ n ≤ last ∧ Hid (∃ r2 o', CommitInv o kr kl kb b w.heap.size w m g n done r2 o' wr)) (fun s6 _ wr => (boxInt s6 wr).toNat)
  case atStart => exact ⟨V.heap.size, last, false, rfl, rfl, by simp, by omega, Int.le_refl _, HI0.out⟩
  case round =>
    obtain ⟨g, n, done, rfl, rfl, kg, hn0, hn1, HI⟩ := hrel
    obtain ⟨r2, o', hI⟩ := HI.out
    have kp : wr.cell? ⟨w.heap.size, 0, none⟩ = some (.pointer (some ⟨b, 0, none⟩)) := hI.bp.cells 0
    have hR2 := Lib.hid hI.raft
    have HIN := Lib.hid hI
    obtain ⟨lb2, As2, ns2, cs2, Ao2, no2, co2, ⟨d0, d1, d2, d3, d4, d5, d6, d7, d8, d27, f2, hlt2⟩, ho2, hL2, _⟩ := hI.raft.open_
    have HL2 : Hid (LogAt o' kl wr.drew lb2 r2.log) := hL2
    clear hL2 d0 d3 d5 d8 d27 HI hI HI0
    by_cases hgt : r2.log.commit < n
    · obtain ⟨hdone, hr2m, hfr⟩ : done = false ∧ r2 = m ∧ m.from_ n = m.from_ m.log.last.1 := by
        rcases HIN.out.is with h | ⟨_, _, rfl, _, h5⟩
        · exact h
        · exfalso
          have hst : (m.log.settle (n + 1)).commit = max m.log.commit (n + 1) := by unfold LogM.settle; rw [if_neg (by omega)]
          have hgt2 : (m.log.settle (n + 1)).commit < n := hgt
          rw [hst] at hgt2; omega
      subst hdone
      have HEQ := Lib.hid (And.intro hr2m hfr)
      have hOK2 : Hid (r2.Ok) := by rw [hr2m]; exact HOKM.out
      clear hr2m hfr
      have hll2 := hOK2.out.log.len
      have hss0 := hOK2.out.log.i0
      have hss1 := hOK2.out.log.i1
      have hcc0 := hOK2.out.log.c0
      have hprl : w.heap.size < wr.heap.size := HIN.out.bp.lt
      have hgl : g < wr.heap.size := HIN.out.bn.lt
      have HW2 : Hid (Wf o' wr) := HIN.out.ext.wf hw
      go_wp2
      go_region_held3 (fun w' => w'.cell? ⟨g, 0, none⟩ = some (.int .i64 n) ∧ w'.cell? ⟨w.heap.size, 0, none⟩ = some (.pointer (some ⟨b, 0, none⟩)) ∧ w'.cell? ⟨b, 4, none⟩ = some (.pointer (some ⟨lb2, 0, none⟩))) (go_keep) ((go_at_call 19; refine (commit19 o' kl lb2 r2.log _ HL2.out).mono ?_; rintro e w' ⟨rfl, rfl⟩))
      go_wp2
      -- BLOCK term
      have hS : (fun w' : World => w'.cell? ⟨g, 0, none⟩ = some (.int .i64 n) ∧ w'.cell? ⟨w.heap.size, 0, none⟩ = some (.pointer (some ⟨b, 0, none⟩)) ∧ w'.cell? ⟨b, 4, none⟩ = some (.pointer (some ⟨lb2, 0, none⟩))) wr.drew.drew := ⟨kg, kp, d4⟩
      refine wp_region_T 10 (fun w' : World => w'.cell? ⟨g, 0, none⟩ = some (.int .i64 n) ∧ w'.cell? ⟨w.heap.size, 0, none⟩ = some (.pointer (some ⟨b, 0, none⟩)) ∧ w'.cell? ⟨b, 4, none⟩ = some (.pointer (some ⟨lb2, 0, none⟩))) (by kernel_rfl) ?_
      refine anyT_takeL (i := 0) (v := ?vn0) rfl (by kernel_rfl) (by kernel_rfl) (by kernel_rfl) (by kernel_rfl) (by kernel_rfl) (fun _ _ _ h => h) (Or.inl ⟨by rfl, fun wS hSw => ?hyn0⟩) hS ?ren0
      case hyn0 => (dsimp only at hSw; obtain ⟨hS1, hS2, hS3⟩ := hSw; go_simp; try with_reducible rfl)
      try simp only [Act.put, List.setIfInBounds_toArray, List.set_cons_zero, List.set_cons_succ]
      refine anyT_takeL (i := 1) (v := ?vn1) rfl (by kernel_rfl) (by kernel_rfl) (by kernel_rfl) (by kernel_rfl) (by kernel_rfl) (fun _ _ _ h => h) (Or.inl ⟨by rfl, fun wS hSw => ?hyn1⟩) hS ?ren1
      case hyn1 => (dsimp only at hSw; obtain ⟨hS1, hS2, hS3⟩ := hSw; go_simp; try with_reducible rfl)
      try simp only [Act.put, List.setIfInBounds_toArray, List.set_cons_zero, List.set_cons_succ]
      refine anyT_takeL (i := 2) (v := ?vn2) rfl (by kernel_rfl) (by kernel_rfl) (by kernel_rfl) (by kernel_rfl) (by kernel_rfl) (fun _ _ _ h => h) (Or.inl ⟨by rfl, fun wS hSw => ?hyn2⟩) hS ?ren2
      case hyn2 => (dsimp only at hSw; obtain ⟨hS1, hS2, hS3⟩ := hSw; go_simp; try with_reducible rfl)
      try simp only [Act.put, List.setIfInBounds_toArray, List.set_cons_zero, List.set_cons_succ]
      refine anyT_takeL (i := 3) (v := ?vn3) rfl (by kernel_rfl) (by kernel_rfl) (by kernel_rfl) (by kernel_rfl) (by kernel_rfl) (fun _ _ _ h => h) (Or.inl ⟨by rfl, fun wS hSw => ?hyn3⟩) hS ?ren3
      case hyn3 => (dsimp only at hSw; obtain ⟨hS1, hS2, hS3⟩ := hSw; go_simp; try with_reducible rfl)
      try simp only [Act.put, List.setIfInBounds_toArray, List.set_cons_zero, List.set_cons_succ]
      refine anyT_takeL (i := 4) (v := ?vn4) rfl (by kernel_rfl) (by kernel_rfl) (by kernel_rfl) (by kernel_rfl) (by kernel_rfl) (fun _ _ _ h => h) (Or.inl ⟨by rfl, fun wS hSw => ?hyn4⟩) hS ?ren4
      case hyn4 => (dsimp only at hSw; obtain ⟨hS1, hS2, hS3⟩ := hSw; go_simp; try with_reducible rfl)
      try simp only [Act.put, List.setIfInBounds_toArray, List.set_cons_zero, List.set_cons_succ]
      refine anyT_oneL (i := 5) rfl (by kernel_rfl) ?_
      intro K hK
      go_simp
      refine (term47 o' kl lb2 r2.log n _ (show LogAt o' kl wr.drew.drew lb2 r2.log from HL2.out) hll2 hss0 hss1 hn0 (by omega)).mono ?_
      rintro e wa ⟨rfl, hba⟩
      have hba' : Below wr.heap.size wr wa := ⟨hba.os, hba.tape, hba.output, hba.size, hba.block⟩
      have p1 := (hba'.cell (p := ⟨g, 0, none⟩) hgl).trans kg
      have p2 := (hba'.cell (p := ⟨w.heap.size, 0, none⟩) hprl).trans kp
      have p3 := (hba'.cell (p := ⟨b, 4, none⟩) hlt2).trans d4
      have p4 := (hba'.cell (p := ⟨b, 2, none⟩) hlt2).trans d2
      try dsimp only
      clear hS
      have hS : (fun w' : World => w'.cell? ⟨g, 0, none⟩ = some (.int .i64 n) ∧ w'.cell? ⟨w.heap.size, 0, none⟩ = some (.pointer (some ⟨b, 0, none⟩)) ∧ w'.cell? ⟨b, 4, none⟩ = some (.pointer (some ⟨lb2, 0, none⟩))) wa := ⟨p1, p2, p3⟩
      refine hK _ _ (.inr hS) ?_
      clear hK K
      try simp only [Act.put, List.setIfInBounds_toArray, List.set_cons_zero, List.set_cons_succ]
      refine anyT_takeL (i := 6) (v := ?vn6) rfl (by kernel_rfl) (by kernel_rfl) (by kernel_rfl) (by kernel_rfl) (by kernel_rfl) (fun _ _ _ h => h) (Or.inl ⟨by rfl, fun wS hSw => ?hyn6⟩) hS ?ren6
      case hyn6 => (dsimp only at hSw; obtain ⟨hS1, hS2, hS3⟩ := hSw; go_simp; try with_reducible rfl)
      try simp only [Act.put, List.setIfInBounds_toArray, List.set_cons_zero, List.set_cons_succ]
      refine anyT_takeL (i := 7) (v := ?vn7) rfl (by kernel_rfl) (by kernel_rfl) (by kernel_rfl) (by kernel_rfl) (by kernel_rfl) (fun _ _ _ h => h) (Or.inl ⟨by rfl, fun wS hSw => ?hyn7⟩) hS ?ren7
      case hyn7 => (dsimp only at hSw; obtain ⟨hS1, hS2, hS3⟩ := hSw; go_simp; try with_reducible rfl)
      try simp only [Act.put, List.setIfInBounds_toArray, List.set_cons_zero, List.set_cons_succ]
      refine anyT_takeL (i := 8) (v := ?vn8) rfl (by kernel_rfl) (by kernel_rfl) (by kernel_rfl) (by kernel_rfl) (by kernel_rfl) (fun _ _ _ h => h) (Or.inl ⟨by rfl, fun wS hSw => ?hyn8⟩) hS ?ren8
      case hyn8 => (dsimp only at hSw; obtain ⟨hS1, hS2, hS3⟩ := hSw; go_simp; try with_reducible rfl)
      try simp only [Act.put, List.setIfInBounds_toArray, List.set_cons_zero, List.set_cons_succ]
      refine anyT_takeL (i := 9) (v := ?vn9) rfl (by kernel_rfl) (by kernel_rfl) (by kernel_rfl) (by kernel_rfl) (by kernel_rfl) (fun _ _ _ h => h) (Or.inl ⟨by rfl, fun wS hSw => ?hyn9⟩) hS ?ren9
      case hyn9 => (dsimp only at hSw; obtain ⟨hS1, hS2, hS3⟩ := hSw; go_simp; try with_reducible rfl)
      try simp only [Act.put, List.setIfInBounds_toArray, List.set_cons_zero, List.set_cons_succ]
      refine anyT_oneL (i := 10) rfl (by kernel_rfl) ?_
      intro K hK
      go_simp
      try dsimp only
      refine hK _ _ (.inl rfl) ?_
      clear hK K hS
      try simp only [Act.put, List.setIfInBounds_toArray, List.set_cons_zero, List.set_cons_succ]
      refine anyT_done (by kernel_rfl) ?_ _
      try clear hS
      -- END
      generalize htv : termVal r2.log n = tv at *
      generalize termCode r2.log n = tc at *
      have HTV := Lib.hid htv
      clear htv
      have HBA := Lib.hid hba'
      by_cases htm : tv = r2.term
      · have htm' : (tv == r2.term) = true := by simpa using htm
        have HTM := Lib.hid htm
        clear htm
        have hmx : RaftAt o' kr kl wa b r2 := hR2.out.below hba' HW2.out
        go_wp2_with fail
        refine (majority67c o' kr kl b w.heap.size g r2 n _ hmx hOK2.out.log hOK2.out.mem hOK2.out.mlen (fun b hb => HW2.out b (Nat.le_trans hba'.size hb)) p2 p1).mono ?_
        rintro e wb ⟨rfl, hbb⟩
        have hbb' : Below wr.heap.size wr wb := hba'.trans (hbb.mono hba'.size)
        have t1 := (hbb'.cell (p := ⟨g, 0, none⟩) hgl).trans kg
        have t2 := (hbb'.cell (p := ⟨w.heap.size, 0, none⟩) hprl).trans kp
        have t3 := (hbb'.cell (p := ⟨b, 4, none⟩) hlt2).trans d4
        have hsb := hbb'.size
        have HBB := Lib.hid hbb'
        clear hmx hbb hbb' p1 p2 p3 p4 hba hba'
        by_cases hmj : r2.majority (fun p => decide (n ≤ r2.match_ p)) = true
        · have HMJ := Lib.hid hmj
          clear hmj
          rw [HMJ.out]
          go_wp2
          -- BLOCK sett
          have hS : (fun w' : World => w'.cell? ⟨g, 0, none⟩ = some (.int .i64 n) ∧ w'.cell? ⟨w.heap.size, 0, none⟩ = some (.pointer (some ⟨b, 0, none⟩)) ∧ w'.cell? ⟨b, 4, none⟩ = some (.pointer (some ⟨lb2, 0, none⟩))) wb.drew := ⟨t1, t2, t3⟩
          refine wp_region_T 5 (fun w' : World => w'.cell? ⟨g, 0, none⟩ = some (.int .i64 n) ∧ w'.cell? ⟨w.heap.size, 0, none⟩ = some (.pointer (some ⟨b, 0, none⟩)) ∧ w'.cell? ⟨b, 4, none⟩ = some (.pointer (some ⟨lb2, 0, none⟩))) (by kernel_rfl) ?_
          refine anyT_takeL (i := 0) (v := ?vs0) rfl (by kernel_rfl) (by kernel_rfl) (by kernel_rfl) (by kernel_rfl) (by kernel_rfl) (fun _ _ _ h => h) (Or.inl ⟨by rfl, fun wS hSw => ?hys0⟩) hS ?res0
          case hys0 => (dsimp only at hSw; obtain ⟨hS1, hS2, hS3⟩ := hSw; go_simp; try with_reducible rfl)
          try simp only [Act.put, List.setIfInBounds_toArray, List.set_cons_zero, List.set_cons_succ]
          refine anyT_takeL (i := 1) (v := ?vs1) rfl (by kernel_rfl) (by kernel_rfl) (by kernel_rfl) (by kernel_rfl) (by kernel_rfl) (fun _ _ _ h => h) (Or.inl ⟨by rfl, fun wS hSw => ?hys1⟩) hS ?res1
          case hys1 => (dsimp only at hSw; obtain ⟨hS1, hS2, hS3⟩ := hSw; go_simp; try with_reducible rfl)
          try simp only [Act.put, List.setIfInBounds_toArray, List.set_cons_zero, List.set_cons_succ]
          refine anyT_takeL (i := 2) (v := ?vs2) rfl (by kernel_rfl) (by kernel_rfl) (by kernel_rfl) (by kernel_rfl) (by kernel_rfl) (fun _ _ _ h => h) (Or.inl ⟨by rfl, fun wS hSw => ?hys2⟩) hS ?res2
          case hys2 => (dsimp only at hSw; obtain ⟨hS1, hS2, hS3⟩ := hSw; go_simp; try with_reducible rfl)
          try simp only [Act.put, List.setIfInBounds_toArray, List.set_cons_zero, List.set_cons_succ]
          refine anyT_takeL (i := 3) (v := ?vs3) rfl (by kernel_rfl) (by kernel_rfl) (by kernel_rfl) (by kernel_rfl) (by kernel_rfl) (fun _ _ _ h => h) (Or.inl ⟨by rfl, fun wS hSw => ?hys3⟩) hS ?res3
          case hys3 => (dsimp only at hSw; obtain ⟨hS1, hS2, hS3⟩ := hSw; go_simp; try with_reducible rfl)
          try simp only [Act.put, List.setIfInBounds_toArray, List.set_cons_zero, List.set_cons_succ]
          refine anyT_takeL (i := 4) (v := ?vs4) rfl (by kernel_rfl) (by kernel_rfl) (by kernel_rfl) (by kernel_rfl) (by kernel_rfl) (fun _ _ _ h => h) (Or.inl ⟨by rfl, fun wS hSw => ?hys4⟩) hS ?res4
          case hys4 => (dsimp only at hSw; obtain ⟨hS1, hS2, hS3⟩ := hSw; go_simp; try with_reducible rfl)
          try simp only [Act.put, List.setIfInBounds_toArray, List.set_cons_zero, List.set_cons_succ]
          refine anyT_oneL (i := 5) rfl (by kernel_rfl) ?_
          intro K hK
          go_simp
          refine (settle73 o' kl lb2 r2.log n _ (show LogAt o' kl wb.drew lb2 r2.log from (show LogAt o' kl wb lb2 r2.log from (show LogAt o' kl wr lb2 r2.log from HL2.out).below HBB.out)) hll2 hl0 (fun b hb => HW2.out b (Nat.le_trans hsb hb))).mono ?_
          rintro e wc ⟨⟨vn, rfl⟩, hLc, hec⟩
          have HLC := Lib.hid hLc
          have HEC := Lib.hid hec.undrew
          have y1 := (HEC.out.cell (p := ⟨g, 0, none⟩) (show g < wb.heap.size by omega) (show o' g ∉ [kl] by rw [HIN.out.og]; simp; omega)).trans t1
          have hsc := HEC.out.size
          clear hLc hec
          try dsimp only
          refine hK _ _ (.inl rfl) ?_
          clear hK K hS
          try simp only [Act.put, List.setIfInBounds_toArray, List.set_cons_zero, List.set_cons_succ]
          refine anyT_done (by kernel_rfl) ?_ _
          try clear hS
          -- END
          go_wp2
          go_roundw
          case rel =>
            refine ⟨wc.heap.size, n - 1, true, rfl, rfl, by simp, by omega, by omega, CommitInv.next (r2 := { m with log := m.log.settle n }) ?_ ?_ HIN.out.op ?_ ?_ ?_ (.inr ⟨rfl, ?_, ?_, ?_, ?_⟩)⟩
            · have hp := (hR2.out.below HBB.out HW2.out).putLog t3 hkl hl0 HEC.out HLC.out
              rw [HEQ.out.1] at hp
              exact hp
            · exact HEC.out.blk (HIN.out.bp.same (HBB.out.block _ hprl)) (by rw [HIN.out.op]; simpa using hl0.symm)
            · exact (HIN.out.ext.trans (Ext.of_below HBB.out HW2.out)).trans (HEC.out.mono (by simp))
            · have := HEQ.out.1; subst this; omega
            · rw [HLL.out]; omega
            · rw [← HEQ.out.2, show n - 1 + 1 = n by omega]
              have h1 := HEQ.out.1
              refine from_good (by rw [← h1]; exact hgt) ?_
              rw [← h1]
              exact ⟨by rw [termVal_getD, HTV.out, HTM.out], HMJ.out⟩
            · rw [show n - 1 + 1 = n by omega]
            · have := HEQ.out.1; subst this; omega
            · rw [HLL.out]; omega
          case measure => simp [boxInt, kg]; omega
        · have hmj : r2.majority (fun p => decide (n ≤ r2.match_ p)) = false := by simpa using hmj
          have HMJ := Lib.hid hmj
          clear hmj
          rw [HMJ.out]
          go_wp2
          go_roundw
          case rel =>
            refine ⟨wb.heap.size, n - 1, false, rfl, rfl, by simp, by omega, by omega, CommitInv.next (r2 := r2) ?_ ?_ HIN.out.op ?_ ?_ ?_ (.inl ⟨rfl, HEQ.out.1, ?_⟩)⟩
            · exact hR2.out.below HBB.out HW2.out
            · exact HIN.out.bp.same (HBB.out.block _ hprl)
            · exact HIN.out.ext.trans (Ext.of_below HBB.out HW2.out)
            · have := HEQ.out.1; subst this; omega
            · rw [HLL.out]; omega
            · rw [← HEQ.out.2]
              have h1 := HEQ.out.1
              refine (from_bad (by rw [← h1]; exact hgt) ?_).symm
              rw [← h1]
              rintro ⟨h2, h3⟩
              rw [HMJ.out] at h3; cases h3
          case measure => simp [boxInt, kg]; omega
      · have htm' : (tv == r2.term) = false := by simpa using htm
        have HTM := Lib.hid htm
        clear htm
        go_wp2
        go_roundw
        case rel =>
          refine ⟨wa.heap.size, n - 1, false, rfl, rfl, by simp, by omega, by omega, CommitInv.next (r2 := r2) ?_ ?_ HIN.out.op ?_ ?_ ?_ (.inl ⟨rfl, HEQ.out.1, ?_⟩)⟩
          · exact hR2.out.below HBA.out HW2.out
          · exact HIN.out.bp.same (HBA.out.block _ hprl)
          · exact HIN.out.ext.trans (Ext.of_below HBA.out HW2.out)
          · have := HEQ.out.1; subst this; omega
          · rw [HLL.out]; omega
          · rw [← HEQ.out.2]
            have h1 := HEQ.out.1
            refine (from_bad (by rw [← h1]; exact hgt) ?_).symm
            rw [← h1]
            rintro ⟨h2, h3⟩
            rw [termVal_getD, HTV.out] at h2; exact HTM.out h2
        case measure => simp [boxInt, kg]; omega
    · have HRR : Hid (r.commitM = (done, r2.leave)) := by
        unfold Hid
        rw [HRES.out]
        rcases HIN.out.is with ⟨rfl, rfl, h3⟩ | ⟨rfl, h2, rfl, _⟩
        · rw [← h3, from_end (by omega)]
        · rw [h2]
      have hgt' : (r2.log.commit < n) = False := by simpa using hgt
      go_wp2
      go_region_held3 (fun w' => w'.cell? ⟨g, 0, none⟩ = some (.int .i64 n) ∧ w'.cell? ⟨w.heap.size, 0, none⟩ = some (.pointer (some ⟨b, 0, none⟩)) ∧ w'.cell? ⟨b, 4, none⟩ = some (.pointer (some ⟨lb2, 0, none⟩))) (go_keep) ((go_at_call 19; refine (commit19 o' kl lb2 r2.log _ HL2.out).mono ?_; rintro e w' ⟨rfl, rfl⟩))
      go_wp2
      have hOK2 : Hid (r2.Ok) := by
        rcases HIN.out.is with ⟨_, rfl, _⟩ | ⟨_, _, rfl, _⟩
        · exact HOKM.out
        · exact HOKM.out.settle _
      have hll2 := hOK2.out.log.len
      have hprl : w.heap.size < wr.heap.size := HIN.out.bp.lt
      have HEX : Hid (Ext [kr, kl] o o' w wr) := HIN.out.ext.shrink fun b hb hm => by
        simp only [List.mem_cons, List.not_mem_nil, or_false] at hm ⊢
        rcases hm with h | h | h
        · exact .inl h
        · exact .inr h
        · have := hkb b hb; omega
      have HW2 : Hid (Wf o' wr) := HEX.out.wf hw
      by_cases hch : r2.log.changing = true
      · have HCH := Lib.hid hch
        -- BLOCK yes
        have hS : (fun w' : World => w'.cell? ⟨w.heap.size, 0, none⟩ = some (.pointer (some ⟨b, 0, none⟩)) ∧ w'.cell? ⟨b, 4, none⟩ = some (.pointer (some ⟨lb2, 0, none⟩)) ∧ w'.cell? ⟨b, 1, none⟩ = some (.int .i64 r2.id)) wr.drew.drew := ⟨kp, d4, d1⟩
        refine wp_region_T 18 (fun w' : World => w'.cell? ⟨w.heap.size, 0, none⟩ = some (.pointer (some ⟨b, 0, none⟩)) ∧ w'.cell? ⟨b, 4, none⟩ = some (.pointer (some ⟨lb2, 0, none⟩)) ∧ w'.cell? ⟨b, 1, none⟩ = some (.int .i64 r2.id)) (by kernel_rfl) ?_
        refine anyT_takeL (i := 0) (v := ?vy0) rfl (by kernel_rfl) (by kernel_rfl) (by kernel_rfl) (by kernel_rfl) (by kernel_rfl) (fun _ _ _ h => h) (Or.inl ⟨by rfl, fun wS hSw => ?hyy0⟩) hS ?rey0
        case hyy0 => (dsimp only at hSw; obtain ⟨hS1, hS2, hS3⟩ := hSw; go_simp; try with_reducible rfl)
        try simp only [Act.put, List.setIfInBounds_toArray, List.set_cons_zero, List.set_cons_succ]
        refine anyT_takeL (i := 1) (v := ?vy1) rfl (by kernel_rfl) (by kernel_rfl) (by kernel_rfl) (by kernel_rfl) (by kernel_rfl) (fun _ _ _ h => h) (Or.inl ⟨by rfl, fun wS hSw => ?hyy1⟩) hS ?rey1
        case hyy1 => (dsimp only at hSw; obtain ⟨hS1, hS2, hS3⟩ := hSw; go_simp; try with_reducible rfl)
        try simp only [Act.put, List.setIfInBounds_toArray, List.set_cons_zero, List.set_cons_succ]
        refine anyT_takeL (i := 2) (v := ?vy2) rfl (by kernel_rfl) (by kernel_rfl) (by kernel_rfl) (by kernel_rfl) (by kernel_rfl) (fun _ _ _ h => h) (Or.inl ⟨by rfl, fun wS hSw => ?hyy2⟩) hS ?rey2
        case hyy2 => (dsimp only at hSw; obtain ⟨hS1, hS2, hS3⟩ := hSw; go_simp; try with_reducible rfl)
        try simp only [Act.put, List.setIfInBounds_toArray, List.set_cons_zero, List.set_cons_succ]
        refine anyT_takeL (i := 3) (v := ?vy3) rfl (by kernel_rfl) (by kernel_rfl) (by kernel_rfl) (by kernel_rfl) (by kernel_rfl) (fun _ _ _ h => h) (Or.inl ⟨by rfl, fun wS hSw => ?hyy3⟩) hS ?rey3
        case hyy3 => (dsimp only at hSw; obtain ⟨hS1, hS2, hS3⟩ := hSw; go_simp; try with_reducible rfl)
        try simp only [Act.put, List.setIfInBounds_toArray, List.set_cons_zero, List.set_cons_succ]
        refine anyT_oneL (i := 4) rfl (by kernel_rfl) ?_
        intro K hK
        go_simp
        refine (changing48 o' kl lb2 r2.log _ (show LogAt o' kl wr.drew.drew lb2 r2.log from HL2.out) hll2).mono ?_
        rintro e w5 ⟨he5, hb5⟩
        rw [HCH.out] at he5
        subst he5
        have hb5' : Below wr.heap.size wr w5 := ⟨hb5.os, hb5.tape, hb5.output, hb5.size, hb5.block⟩
        have q1 := (hb5'.cell (p := ⟨w.heap.size, 0, none⟩) hprl).trans kp
        have q2 := (hb5'.cell (p := ⟨b, 4, none⟩) hlt2).trans d4
        have q3 := (hb5'.cell (p := ⟨b, 1, none⟩) hlt2).trans d1
        have hlt5 : b < w5.heap.size := Nat.lt_of_lt_of_le hlt2 hb5'.size
        have hpr5 : w.heap.size < w5.heap.size := Nat.lt_of_lt_of_le hprl hb5'.size
        have HL5 : Hid (LogAt o' kl w5 lb2 r2.log) := (show LogAt o' kl wr lb2 r2.log from HL2.out).below hb5'
        try dsimp only
        clear hS
        have hS : (fun w' : World => w'.cell? ⟨w.heap.size, 0, none⟩ = some (.pointer (some ⟨b, 0, none⟩)) ∧ w'.cell? ⟨b, 4, none⟩ = some (.pointer (some ⟨lb2, 0, none⟩)) ∧ w'.cell? ⟨b, 1, none⟩ = some (.int .i64 r2.id)) w5 := ⟨q1, q2, q3⟩
        refine hK _ _ (.inr hS) ?_
        clear hK K
        try simp only [Act.put, List.setIfInBounds_toArray, List.set_cons_zero, List.set_cons_succ]
        refine anyT_takeL (i := 5) (v := ?vy5) rfl (by kernel_rfl) (by kernel_rfl) (by kernel_rfl) (by kernel_rfl) (by kernel_rfl) (fun _ _ _ h => h) (Or.inl ⟨by rfl, fun wS hSw => ?hyy5⟩) hS ?rey5
        case hyy5 => (dsimp only at hSw; obtain ⟨hS1, hS2, hS3⟩ := hSw; go_simp; try with_reducible rfl)
        try simp only [Act.put, List.setIfInBounds_toArray, List.set_cons_zero, List.set_cons_succ]
        refine anyT_takeL (i := 6) (v := ?vy6) rfl (by kernel_rfl) (by kernel_rfl) (by kernel_rfl) (by kernel_rfl) (by kernel_rfl) (fun _ _ _ h => h) (Or.inl ⟨by rfl, fun wS hSw => ?hyy6⟩) hS ?rey6
        case hyy6 => (dsimp only at hSw; obtain ⟨hS1, hS2, hS3⟩ := hSw; go_simp; try with_reducible rfl)
        try simp only [Act.put, List.setIfInBounds_toArray, List.set_cons_zero, List.set_cons_succ]
        refine anyT_takeL (i := 7) (v := undef) rfl (by kernel_rfl) (by kernel_rfl) (by kernel_rfl) (by kernel_rfl) (by kernel_rfl) (fun _ _ _ h => h) (Or.inr ⟨by rfl, rfl⟩) hS ?rey7
        try simp only [Act.put, List.setIfInBounds_toArray, List.set_cons_zero, List.set_cons_succ]
        refine anyT_takeL (i := 8) (v := undef) rfl (by kernel_rfl) (by kernel_rfl) (by kernel_rfl) (by kernel_rfl) (by kernel_rfl) (fun _ _ _ h => h) (Or.inr ⟨by rfl, rfl⟩) hS ?rey8
        try simp only [Act.put, List.setIfInBounds_toArray, List.set_cons_zero, List.set_cons_succ]
        refine anyT_takeL (i := 9) (v := undef) rfl (by kernel_rfl) (by kernel_rfl) (by kernel_rfl) (by kernel_rfl) (by kernel_rfl) (fun _ _ _ h => h) (Or.inr ⟨by rfl, rfl⟩) hS ?rey9
        try simp only [Act.put, List.setIfInBounds_toArray, List.set_cons_zero, List.set_cons_succ]
        refine anyT_takeL (i := 10) (v := undef) rfl (by kernel_rfl) (by kernel_rfl) (by kernel_rfl) (by kernel_rfl) (by kernel_rfl) (fun _ _ _ h => h) (Or.inr ⟨by rfl, rfl⟩) hS ?rey10
        try simp only [Act.put, List.setIfInBounds_toArray, List.set_cons_zero, List.set_cons_succ]
        refine anyT_takeL (i := 11) (v := undef) rfl (by kernel_rfl) (by kernel_rfl) (by kernel_rfl) (by kernel_rfl) (by kernel_rfl) (fun _ _ _ h => h) (Or.inr ⟨by rfl, rfl⟩) hS ?rey11
        try simp only [Act.put, List.setIfInBounds_toArray, List.set_cons_zero, List.set_cons_succ]
        refine anyT_takeL (i := 12) (v := undef) rfl (by kernel_rfl) (by kernel_rfl) (by kernel_rfl) (by kernel_rfl) (by kernel_rfl) (fun _ _ _ h => h) (Or.inr ⟨by rfl, rfl⟩) hS ?rey12
        try simp only [Act.put, List.setIfInBounds_toArray, List.set_cons_zero, List.set_cons_succ]
        refine anyT_takeL (i := 13) (v := undef) rfl (by kernel_rfl) (by kernel_rfl) (by kernel_rfl) (by kernel_rfl) (by kernel_rfl) (fun _ _ _ h => h) (Or.inr ⟨by rfl, rfl⟩) hS ?rey13
        try simp only [Act.put, List.setIfInBounds_toArray, List.set_cons_zero, List.set_cons_succ]
        refine anyT_takeL (i := 14) (v := undef) rfl (by kernel_rfl) (by kernel_rfl) (by kernel_rfl) (by kernel_rfl) (by kernel_rfl) (fun _ _ _ h => h) (Or.inr ⟨by rfl, rfl⟩) hS ?rey14
        try simp only [Act.put, List.setIfInBounds_toArray, List.set_cons_zero, List.set_cons_succ]
        refine anyT_takeL (i := 15) (v := undef) rfl (by kernel_rfl) (by kernel_rfl) (by kernel_rfl) (by kernel_rfl) (by kernel_rfl) (fun _ _ _ h => h) (Or.inr ⟨by rfl, rfl⟩) hS ?rey15
        try simp only [Act.put, List.setIfInBounds_toArray, List.set_cons_zero, List.set_cons_succ]
        refine anyT_takeL (i := 16) (v := undef) rfl (by kernel_rfl) (by kernel_rfl) (by kernel_rfl) (by kernel_rfl) (by kernel_rfl) (fun _ _ _ h => h) (Or.inr ⟨by rfl, rfl⟩) hS ?rey16
        try simp only [Act.put, List.setIfInBounds_toArray, List.set_cons_zero, List.set_cons_succ]
        refine anyT_takeL (i := 17) (v := undef) rfl (by kernel_rfl) (by kernel_rfl) (by kernel_rfl) (by kernel_rfl) (by kernel_rfl) (fun _ _ _ h => h) (Or.inr ⟨by rfl, rfl⟩) hS ?rey17
        try simp only [Act.put, List.setIfInBounds_toArray, List.set_cons_zero, List.set_cons_succ]
        refine anyT_oneL (i := 18) rfl (by kernel_rfl) ?_
        intro K hK
        go_simp
        try dsimp only
        refine hK _ _ (.inl rfl) ?_
        clear hK K hS
        try simp only [Act.put, List.setIfInBounds_toArray, List.set_cons_zero, List.set_cons_succ]
        refine anyT_done (by kernel_rfl) ?_ _
        try clear hS
        -- END
        go_wp2
        go_ret
        have hlv : r2.leave = r2 := by unfold RaftM.leave; rw [if_neg (by rw [HCH.out]; rintro ⟨h, _⟩; cases h)]
        exact ⟨o', ret_bool (by rw [HRR.out]), by rw [HRR.out, hlv]; exact hR2.out.below hb5' HW2.out, HEX.out.trans (Ext.of_below hb5' HW2.out)⟩
      · have hch : r2.log.changing = false := by simpa using hch
        have HCH := Lib.hid hch
        clear hch
        by_cases hme : r2.id ∈ r2.log.members
        · have HME := Lib.hid hme
          clear hme
          -- BLOCK mem
          have hS : (fun w' : World => w'.cell? ⟨w.heap.size, 0, none⟩ = some (.pointer (some ⟨b, 0, none⟩)) ∧ w'.cell? ⟨b, 4, none⟩ = some (.pointer (some ⟨lb2, 0, none⟩)) ∧ w'.cell? ⟨b, 1, none⟩ = some (.int .i64 r2.id)) wr.drew.drew := ⟨kp, d4, d1⟩
          refine wp_region_T 18 (fun w' : World => w'.cell? ⟨w.heap.size, 0, none⟩ = some (.pointer (some ⟨b, 0, none⟩)) ∧ w'.cell? ⟨b, 4, none⟩ = some (.pointer (some ⟨lb2, 0, none⟩)) ∧ w'.cell? ⟨b, 1, none⟩ = some (.int .i64 r2.id)) (by kernel_rfl) ?_
          refine anyT_takeL (i := 0) (v := ?vz0) rfl (by kernel_rfl) (by kernel_rfl) (by kernel_rfl) (by kernel_rfl) (by kernel_rfl) (fun _ _ _ h => h) (Or.inl ⟨by rfl, fun wS hSw => ?hyz0⟩) hS ?rez0
          case hyz0 => (dsimp only at hSw; obtain ⟨hS1, hS2, hS3⟩ := hSw; go_simp; try with_reducible rfl)
          try simp only [Act.put, List.setIfInBounds_toArray, List.set_cons_zero, List.set_cons_succ]
          refine anyT_takeL (i := 1) (v := ?vz1) rfl (by kernel_rfl) (by kernel_rfl) (by kernel_rfl) (by kernel_rfl) (by kernel_rfl) (fun _ _ _ h => h) (Or.inl ⟨by rfl, fun wS hSw => ?hyz1⟩) hS ?rez1
          case hyz1 => (dsimp only at hSw; obtain ⟨hS1, hS2, hS3⟩ := hSw; go_simp; try with_reducible rfl)
          try simp only [Act.put, List.setIfInBounds_toArray, List.set_cons_zero, List.set_cons_succ]
          refine anyT_takeL (i := 2) (v := ?vz2) rfl (by kernel_rfl) (by kernel_rfl) (by kernel_rfl) (by kernel_rfl) (by kernel_rfl) (fun _ _ _ h => h) (Or.inl ⟨by rfl, fun wS hSw => ?hyz2⟩) hS ?rez2
          case hyz2 => (dsimp only at hSw; obtain ⟨hS1, hS2, hS3⟩ := hSw; go_simp; try with_reducible rfl)
          try simp only [Act.put, List.setIfInBounds_toArray, List.set_cons_zero, List.set_cons_succ]
          refine anyT_takeL (i := 3) (v := ?vz3) rfl (by kernel_rfl) (by kernel_rfl) (by kernel_rfl) (by kernel_rfl) (by kernel_rfl) (fun _ _ _ h => h) (Or.inl ⟨by rfl, fun wS hSw => ?hyz3⟩) hS ?rez3
          case hyz3 => (dsimp only at hSw; obtain ⟨hS1, hS2, hS3⟩ := hSw; go_simp; try with_reducible rfl)
          try simp only [Act.put, List.setIfInBounds_toArray, List.set_cons_zero, List.set_cons_succ]
          refine anyT_oneL (i := 4) rfl (by kernel_rfl) ?_
          intro K hK
          go_simp
          refine (changing48 o' kl lb2 r2.log _ (show LogAt o' kl wr.drew.drew lb2 r2.log from HL2.out) hll2).mono ?_
          rintro e w5 ⟨he5, hb5⟩
          rw [HCH.out] at he5
          subst he5
          have hb5' : Below wr.heap.size wr w5 := ⟨hb5.os, hb5.tape, hb5.output, hb5.size, hb5.block⟩
          have q1 := (hb5'.cell (p := ⟨w.heap.size, 0, none⟩) hprl).trans kp
          have q2 := (hb5'.cell (p := ⟨b, 4, none⟩) hlt2).trans d4
          have q3 := (hb5'.cell (p := ⟨b, 1, none⟩) hlt2).trans d1
          have hlt5 : b < w5.heap.size := Nat.lt_of_lt_of_le hlt2 hb5'.size
          have hpr5 : w.heap.size < w5.heap.size := Nat.lt_of_lt_of_le hprl hb5'.size
          have HL5 : Hid (LogAt o' kl w5 lb2 r2.log) := (show LogAt o' kl wr lb2 r2.log from HL2.out).below hb5'
          try dsimp only
          clear hS
          have hS : (fun w' : World => w'.cell? ⟨w.heap.size, 0, none⟩ = some (.pointer (some ⟨b, 0, none⟩)) ∧ w'.cell? ⟨b, 4, none⟩ = some (.pointer (some ⟨lb2, 0, none⟩)) ∧ w'.cell? ⟨b, 1, none⟩ = some (.int .i64 r2.id)) w5 := ⟨q1, q2, q3⟩
          refine hK _ _ (.inr hS) ?_
          clear hK K
          try simp only [Act.put, List.setIfInBounds_toArray, List.set_cons_zero, List.set_cons_succ]
          refine anyT_takeL (i := 5) (v := ?vz5) rfl (by kernel_rfl) (by kernel_rfl) (by kernel_rfl) (by kernel_rfl) (by kernel_rfl) (fun _ _ _ h => h) (Or.inl ⟨by rfl, fun wS hSw => ?hyz5⟩) hS ?rez5
          case hyz5 => (dsimp only at hSw; obtain ⟨hS1, hS2, hS3⟩ := hSw; go_simp; try with_reducible rfl)
          try simp only [Act.put, List.setIfInBounds_toArray, List.set_cons_zero, List.set_cons_succ]
          refine anyT_takeL (i := 6) (v := ?vz6) rfl (by kernel_rfl) (by kernel_rfl) (by kernel_rfl) (by kernel_rfl) (by kernel_rfl) (fun _ _ _ h => h) (Or.inl ⟨by rfl, fun wS hSw => ?hyz6⟩) hS ?rez6
          case hyz6 => (dsimp only at hSw; obtain ⟨hS1, hS2, hS3⟩ := hSw; go_simp; try with_reducible rfl)
          try simp only [Act.put, List.setIfInBounds_toArray, List.set_cons_zero, List.set_cons_succ]
          refine anyT_takeL (i := 7) (v := ?vz7) rfl (by kernel_rfl) (by kernel_rfl) (by kernel_rfl) (by kernel_rfl) (by kernel_rfl) (fun _ _ _ h => h) (Or.inl ⟨by rfl, fun wS hSw => ?hyz7⟩) hS ?rez7
          case hyz7 => (dsimp only at hSw; obtain ⟨hS1, hS2, hS3⟩ := hSw; go_simp; try with_reducible rfl)
          try simp only [Act.put, List.setIfInBounds_toArray, List.set_cons_zero, List.set_cons_succ]
          refine anyT_takeL (i := 8) (v := ?vz8) rfl (by kernel_rfl) (by kernel_rfl) (by kernel_rfl) (by kernel_rfl) (by kernel_rfl) (fun _ _ _ h => h) (Or.inl ⟨by rfl, fun wS hSw => ?hyz8⟩) hS ?rez8
          case hyz8 => (dsimp only at hSw; obtain ⟨hS1, hS2, hS3⟩ := hSw; go_simp; try with_reducible rfl)
          try simp only [Act.put, List.setIfInBounds_toArray, List.set_cons_zero, List.set_cons_succ]
          refine anyT_takeL (i := 9) (v := ?vz9) rfl (by kernel_rfl) (by kernel_rfl) (by kernel_rfl) (by kernel_rfl) (by kernel_rfl) (fun _ _ _ h => h) (Or.inl ⟨by rfl, fun wS hSw => ?hyz9⟩) hS ?rez9
          case hyz9 => (dsimp only at hSw; obtain ⟨hS1, hS2, hS3⟩ := hSw; go_simp; try with_reducible rfl)
          try simp only [Act.put, List.setIfInBounds_toArray, List.set_cons_zero, List.set_cons_succ]
          refine anyT_takeL (i := 10) (v := ?vz10) rfl (by kernel_rfl) (by kernel_rfl) (by kernel_rfl) (by kernel_rfl) (by kernel_rfl) (fun _ _ _ h => h) (Or.inl ⟨by rfl, fun wS hSw => ?hyz10⟩) hS ?rez10
          case hyz10 => (dsimp only at hSw; obtain ⟨hS1, hS2, hS3⟩ := hSw; go_simp; try with_reducible rfl)
          try simp only [Act.put, List.setIfInBounds_toArray, List.set_cons_zero, List.set_cons_succ]
          refine anyT_takeL (i := 12) (v := ?vz12) rfl (by kernel_rfl) (by kernel_rfl) (by kernel_rfl) (by kernel_rfl) (by kernel_rfl) (fun _ _ _ h => h) (Or.inl ⟨by rfl, fun wS hSw => ?hyz12⟩) hS ?rez12
          case hyz12 => (dsimp only at hSw; obtain ⟨hS1, hS2, hS3⟩ := hSw; go_simp; try with_reducible rfl)
          try simp only [Act.put, List.setIfInBounds_toArray, List.set_cons_zero, List.set_cons_succ]
          refine anyT_takeL (i := 13) (v := ?vz13) rfl (by kernel_rfl) (by kernel_rfl) (by kernel_rfl) (by kernel_rfl) (by kernel_rfl) (fun _ _ _ h => h) (Or.inl ⟨by rfl, fun wS hSw => ?hyz13⟩) hS ?rez13
          case hyz13 => (dsimp only at hSw; obtain ⟨hS1, hS2, hS3⟩ := hSw; go_simp; try with_reducible rfl)
          try simp only [Act.put, List.setIfInBounds_toArray, List.set_cons_zero, List.set_cons_succ]
          refine anyT_takeL (i := 14) (v := ?vz14) rfl (by kernel_rfl) (by kernel_rfl) (by kernel_rfl) (by kernel_rfl) (by kernel_rfl) (fun _ _ _ h => h) (Or.inl ⟨by rfl, fun wS hSw => ?hyz14⟩) hS ?rez14
          case hyz14 => (dsimp only at hSw; obtain ⟨hS1, hS2, hS3⟩ := hSw; go_simp; try with_reducible rfl)
          try simp only [Act.put, List.setIfInBounds_toArray, List.set_cons_zero, List.set_cons_succ]
          refine anyT_takeL (i := 15) (v := ?vz15) rfl (by kernel_rfl) (by kernel_rfl) (by kernel_rfl) (by kernel_rfl) (by kernel_rfl) (fun _ _ _ h => h) (Or.inl ⟨by rfl, fun wS hSw => ?hyz15⟩) hS ?rez15
          case hyz15 => (dsimp only at hSw; obtain ⟨hS1, hS2, hS3⟩ := hSw; go_simp; try with_reducible rfl)
          try simp only [Act.put, List.setIfInBounds_toArray, List.set_cons_zero, List.set_cons_succ]
          refine anyT_oneL (i := 11) rfl (by kernel_rfl) ?_
          intro K hK
          go_simp
          refine (members17 o' kl lb2 r2.log _ HL5.out hOK2.out.log).mono ?_
          rintro e w6 ⟨A6, n6, c6, rfl, hI6, hb6⟩
          have q4 := (hb6.cell (p := ⟨w.heap.size, 0, none⟩) hpr5).trans q1
          have q5 := (hb6.cell (p := ⟨b, 4, none⟩) hlt5).trans q2
          have q6 := (hb6.cell (p := ⟨b, 1, none⟩) hlt5).trans q3
          have HI6 := Lib.hid hI6
          clear hI6
          try dsimp only
          clear hS
          have hS : (fun w' : World => w'.cell? ⟨w.heap.size, 0, none⟩ = some (.pointer (some ⟨b, 0, none⟩)) ∧ w'.cell? ⟨b, 4, none⟩ = some (.pointer (some ⟨lb2, 0, none⟩)) ∧ w'.cell? ⟨b, 1, none⟩ = some (.int .i64 r2.id)) w6 := ⟨q4, q5, q6⟩
          refine hK _ _ (.inr hS) ?_
          clear hK K
          try simp only [Act.put, List.setIfInBounds_toArray, List.set_cons_zero, List.set_cons_succ]
          refine anyT_oneL (i := 16) rfl (by kernel_rfl) ?_
          intro K hK
          go_simp
          refine (contains35 _ r2.log.members r2.id _ _ HI6.out (by have := hOK2.out.mlen; omega)).mono ?_
          rintro e w7 ⟨he7, hx7⟩
          rw [decide_eq_true HME.out] at he7
          subst he7
          obtain rfl := hx7.symm
          clear hx7
          try dsimp only
          clear hS
          have hS : (fun w' : World => w'.cell? ⟨w.heap.size, 0, none⟩ = some (.pointer (some ⟨b, 0, none⟩)) ∧ w'.cell? ⟨b, 4, none⟩ = some (.pointer (some ⟨lb2, 0, none⟩)) ∧ w'.cell? ⟨b, 1, none⟩ = some (.int .i64 r2.id)) w6 := ⟨q4, q5, q6⟩
          refine hK _ _ (.inr hS) ?_
          clear hK K
          try simp only [Act.put, List.setIfInBounds_toArray, List.set_cons_zero, List.set_cons_succ]
          refine anyT_takeL (i := 17) (v := ?vz17) rfl (by kernel_rfl) (by kernel_rfl) (by kernel_rfl) (by kernel_rfl) (by kernel_rfl) (fun _ _ _ h => h) (Or.inl ⟨by rfl, fun wS hSw => ?hyz17⟩) hS ?rez17
          case hyz17 => (dsimp only at hSw; obtain ⟨hS1, hS2, hS3⟩ := hSw; go_simp; try with_reducible rfl)
          try simp only [Act.put, List.setIfInBounds_toArray, List.set_cons_zero, List.set_cons_succ]
          refine anyT_oneL (i := 18) rfl (by kernel_rfl) ?_
          intro K hK
          go_simp
          try dsimp only
          refine hK _ _ (.inl rfl) ?_
          clear hK K hS
          try simp only [Act.put, List.setIfInBounds_toArray, List.set_cons_zero, List.set_cons_succ]
          refine anyT_done (by kernel_rfl) ?_ _
          try clear hS
          -- END
          go_wp2
          go_ret
          have hlv : r2.leave = r2 := by unfold RaftM.leave; rw [if_neg (by rintro ⟨_, h⟩; exact h HME.out)]
          have hb6' : Below wr.heap.size wr w6 := hb5'.trans (hb6.mono hb5'.size)
          exact ⟨o', ret_bool (by rw [HRR.out]), by rw [HRR.out, hlv]; exact hR2.out.below hb6' HW2.out, HEX.out.trans (Ext.of_below hb6' HW2.out)⟩
        · have HME := Lib.hid hme
          clear hme
          -- BLOCK out
          have hS : (fun w' : World => w'.cell? ⟨w.heap.size, 0, none⟩ = some (.pointer (some ⟨b, 0, none⟩)) ∧ w'.cell? ⟨b, 4, none⟩ = some (.pointer (some ⟨lb2, 0, none⟩)) ∧ w'.cell? ⟨b, 1, none⟩ = some (.int .i64 r2.id)) wr.drew.drew := ⟨kp, d4, d1⟩
          refine wp_region_T 18 (fun w' : World => w'.cell? ⟨w.heap.size, 0, none⟩ = some (.pointer (some ⟨b, 0, none⟩)) ∧ w'.cell? ⟨b, 4, none⟩ = some (.pointer (some ⟨lb2, 0, none⟩)) ∧ w'.cell? ⟨b, 1, none⟩ = some (.int .i64 r2.id)) (by kernel_rfl) ?_
          refine anyT_takeL (i := 0) (v := ?vt0) rfl (by kernel_rfl) (by kernel_rfl) (by kernel_rfl) (by kernel_rfl) (by kernel_rfl) (fun _ _ _ h => h) (Or.inl ⟨by rfl, fun wS hSw => ?hyt0⟩) hS ?ret0
          case hyt0 => (dsimp only at hSw; obtain ⟨hS1, hS2, hS3⟩ := hSw; go_simp; try with_reducible rfl)
          try simp only [Act.put, List.setIfInBounds_toArray, List.set_cons_zero, List.set_cons_succ]
          refine anyT_takeL (i := 1) (v := ?vt1) rfl (by kernel_rfl) (by kernel_rfl) (by kernel_rfl) (by kernel_rfl) (by kernel_rfl) (fun _ _ _ h => h) (Or.inl ⟨by rfl, fun wS hSw => ?hyt1⟩) hS ?ret1
          case hyt1 => (dsimp only at hSw; obtain ⟨hS1, hS2, hS3⟩ := hSw; go_simp; try with_reducible rfl)
          try simp only [Act.put, List.setIfInBounds_toArray, List.set_cons_zero, List.set_cons_succ]
          refine anyT_takeL (i := 2) (v := ?vt2) rfl (by kernel_rfl) (by kernel_rfl) (by kernel_rfl) (by kernel_rfl) (by kernel_rfl) (fun _ _ _ h => h) (Or.inl ⟨by rfl, fun wS hSw => ?hyt2⟩) hS ?ret2
          case hyt2 => (dsimp only at hSw; obtain ⟨hS1, hS2, hS3⟩ := hSw; go_simp; try with_reducible rfl)
          try simp only [Act.put, List.setIfInBounds_toArray, List.set_cons_zero, List.set_cons_succ]
          refine anyT_takeL (i := 3) (v := ?vt3) rfl (by kernel_rfl) (by kernel_rfl) (by kernel_rfl) (by kernel_rfl) (by kernel_rfl) (fun _ _ _ h => h) (Or.inl ⟨by rfl, fun wS hSw => ?hyt3⟩) hS ?ret3
          case hyt3 => (dsimp only at hSw; obtain ⟨hS1, hS2, hS3⟩ := hSw; go_simp; try with_reducible rfl)
          try simp only [Act.put, List.setIfInBounds_toArray, List.set_cons_zero, List.set_cons_succ]
          refine anyT_oneL (i := 4) rfl (by kernel_rfl) ?_
          intro K hK
          go_simp
          refine (changing48 o' kl lb2 r2.log _ (show LogAt o' kl wr.drew.drew lb2 r2.log from HL2.out) hll2).mono ?_
          rintro e w5 ⟨he5, hb5⟩
          rw [HCH.out] at he5
          subst he5
          have hb5' : Below wr.heap.size wr w5 := ⟨hb5.os, hb5.tape, hb5.output, hb5.size, hb5.block⟩
          have q1 := (hb5'.cell (p := ⟨w.heap.size, 0, none⟩) hprl).trans kp
          have q2 := (hb5'.cell (p := ⟨b, 4, none⟩) hlt2).trans d4
          have q3 := (hb5'.cell (p := ⟨b, 1, none⟩) hlt2).trans d1
          have hlt5 : b < w5.heap.size := Nat.lt_of_lt_of_le hlt2 hb5'.size
          have hpr5 : w.heap.size < w5.heap.size := Nat.lt_of_lt_of_le hprl hb5'.size
          have HL5 : Hid (LogAt o' kl w5 lb2 r2.log) := (show LogAt o' kl wr lb2 r2.log from HL2.out).below hb5'
          try dsimp only
          clear hS
          have hS : (fun w' : World => w'.cell? ⟨w.heap.size, 0, none⟩ = some (.pointer (some ⟨b, 0, none⟩)) ∧ w'.cell? ⟨b, 4, none⟩ = some (.pointer (some ⟨lb2, 0, none⟩)) ∧ w'.cell? ⟨b, 1, none⟩ = some (.int .i64 r2.id)) w5 := ⟨q1, q2, q3⟩
          refine hK _ _ (.inr hS) ?_
          clear hK K
          try simp only [Act.put, List.setIfInBounds_toArray, List.set_cons_zero, List.set_cons_succ]
          refine anyT_takeL (i := 5) (v := ?vt5) rfl (by kernel_rfl) (by kernel_rfl) (by kernel_rfl) (by kernel_rfl) (by kernel_rfl) (fun _ _ _ h => h) (Or.inl ⟨by rfl, fun wS hSw => ?hyt5⟩) hS ?ret5
          case hyt5 => (dsimp only at hSw; obtain ⟨hS1, hS2, hS3⟩ := hSw; go_simp; try with_reducible rfl)
          try simp only [Act.put, List.setIfInBounds_toArray, List.set_cons_zero, List.set_cons_succ]
          refine anyT_takeL (i := 6) (v := ?vt6) rfl (by kernel_rfl) (by kernel_rfl) (by kernel_rfl) (by kernel_rfl) (by kernel_rfl) (fun _ _ _ h => h) (Or.inl ⟨by rfl, fun wS hSw => ?hyt6⟩) hS ?ret6
          case hyt6 => (dsimp only at hSw; obtain ⟨hS1, hS2, hS3⟩ := hSw; go_simp; try with_reducible rfl)
          try simp only [Act.put, List.setIfInBounds_toArray, List.set_cons_zero, List.set_cons_succ]
          refine anyT_takeL (i := 7) (v := ?vt7) rfl (by kernel_rfl) (by kernel_rfl) (by kernel_rfl) (by kernel_rfl) (by kernel_rfl) (fun _ _ _ h => h) (Or.inl ⟨by rfl, fun wS hSw => ?hyt7⟩) hS ?ret7
          case hyt7 => (dsimp only at hSw; obtain ⟨hS1, hS2, hS3⟩ := hSw; go_simp; try with_reducible rfl)
          try simp only [Act.put, List.setIfInBounds_toArray, List.set_cons_zero, List.set_cons_succ]
          refine anyT_takeL (i := 8) (v := ?vt8) rfl (by kernel_rfl) (by kernel_rfl) (by kernel_rfl) (by kernel_rfl) (by kernel_rfl) (fun _ _ _ h => h) (Or.inl ⟨by rfl, fun wS hSw => ?hyt8⟩) hS ?ret8
          case hyt8 => (dsimp only at hSw; obtain ⟨hS1, hS2, hS3⟩ := hSw; go_simp; try with_reducible rfl)
          try simp only [Act.put, List.setIfInBounds_toArray, List.set_cons_zero, List.set_cons_succ]
          refine anyT_takeL (i := 9) (v := ?vt9) rfl (by kernel_rfl) (by kernel_rfl) (by kernel_rfl) (by kernel_rfl) (by kernel_rfl) (fun _ _ _ h => h) (Or.inl ⟨by rfl, fun wS hSw => ?hyt9⟩) hS ?ret9
          case hyt9 => (dsimp only at hSw; obtain ⟨hS1, hS2, hS3⟩ := hSw; go_simp; try with_reducible rfl)
          try simp only [Act.put, List.setIfInBounds_toArray, List.set_cons_zero, List.set_cons_succ]
          refine anyT_takeL (i := 10) (v := ?vt10) rfl (by kernel_rfl) (by kernel_rfl) (by kernel_rfl) (by kernel_rfl) (by kernel_rfl) (fun _ _ _ h => h) (Or.inl ⟨by rfl, fun wS hSw => ?hyt10⟩) hS ?ret10
          case hyt10 => (dsimp only at hSw; obtain ⟨hS1, hS2, hS3⟩ := hSw; go_simp; try with_reducible rfl)
          try simp only [Act.put, List.setIfInBounds_toArray, List.set_cons_zero, List.set_cons_succ]
          refine anyT_takeL (i := 12) (v := ?vt12) rfl (by kernel_rfl) (by kernel_rfl) (by kernel_rfl) (by kernel_rfl) (by kernel_rfl) (fun _ _ _ h => h) (Or.inl ⟨by rfl, fun wS hSw => ?hyt12⟩) hS ?ret12
          case hyt12 => (dsimp only at hSw; obtain ⟨hS1, hS2, hS3⟩ := hSw; go_simp; try with_reducible rfl)
          try simp only [Act.put, List.setIfInBounds_toArray, List.set_cons_zero, List.set_cons_succ]
          refine anyT_takeL (i := 13) (v := ?vt13) rfl (by kernel_rfl) (by kernel_rfl) (by kernel_rfl) (by kernel_rfl) (by kernel_rfl) (fun _ _ _ h => h) (Or.inl ⟨by rfl, fun wS hSw => ?hyt13⟩) hS ?ret13
          case hyt13 => (dsimp only at hSw; obtain ⟨hS1, hS2, hS3⟩ := hSw; go_simp; try with_reducible rfl)
          try simp only [Act.put, List.setIfInBounds_toArray, List.set_cons_zero, List.set_cons_succ]
          refine anyT_takeL (i := 14) (v := ?vt14) rfl (by kernel_rfl) (by kernel_rfl) (by kernel_rfl) (by kernel_rfl) (by kernel_rfl) (fun _ _ _ h => h) (Or.inl ⟨by rfl, fun wS hSw => ?hyt14⟩) hS ?ret14
          case hyt14 => (dsimp only at hSw; obtain ⟨hS1, hS2, hS3⟩ := hSw; go_simp; try with_reducible rfl)
          try simp only [Act.put, List.setIfInBounds_toArray, List.set_cons_zero, List.set_cons_succ]
          refine anyT_takeL (i := 15) (v := ?vt15) rfl (by kernel_rfl) (by kernel_rfl) (by kernel_rfl) (by kernel_rfl) (by kernel_rfl) (fun _ _ _ h => h) (Or.inl ⟨by rfl, fun wS hSw => ?hyt15⟩) hS ?ret15
          case hyt15 => (dsimp only at hSw; obtain ⟨hS1, hS2, hS3⟩ := hSw; go_simp; try with_reducible rfl)
          try simp only [Act.put, List.setIfInBounds_toArray, List.set_cons_zero, List.set_cons_succ]
          refine anyT_oneL (i := 11) rfl (by kernel_rfl) ?_
          intro K hK
          go_simp
          refine (members17 o' kl lb2 r2.log _ HL5.out hOK2.out.log).mono ?_
          rintro e w6 ⟨A6, n6, c6, rfl, hI6, hb6⟩
          have q4 := (hb6.cell (p := ⟨w.heap.size, 0, none⟩) hpr5).trans q1
          have q5 := (hb6.cell (p := ⟨b, 4, none⟩) hlt5).trans q2
          have q6 := (hb6.cell (p := ⟨b, 1, none⟩) hlt5).trans q3
          have HI6 := Lib.hid hI6
          clear hI6
          try dsimp only
          clear hS
          have hS : (fun w' : World => w'.cell? ⟨w.heap.size, 0, none⟩ = some (.pointer (some ⟨b, 0, none⟩)) ∧ w'.cell? ⟨b, 4, none⟩ = some (.pointer (some ⟨lb2, 0, none⟩)) ∧ w'.cell? ⟨b, 1, none⟩ = some (.int .i64 r2.id)) w6 := ⟨q4, q5, q6⟩
          refine hK _ _ (.inr hS) ?_
          clear hK K
          try simp only [Act.put, List.setIfInBounds_toArray, List.set_cons_zero, List.set_cons_succ]
          refine anyT_oneL (i := 16) rfl (by kernel_rfl) ?_
          intro K hK
          go_simp
          refine (contains35 _ r2.log.members r2.id _ _ HI6.out (by have := hOK2.out.mlen; omega)).mono ?_
          rintro e w7 ⟨he7, hx7⟩
          rw [decide_eq_false HME.out] at he7
          subst he7
          obtain rfl := hx7.symm
          clear hx7
          try dsimp only
          clear hS
          have hS : (fun w' : World => w'.cell? ⟨w.heap.size, 0, none⟩ = some (.pointer (some ⟨b, 0, none⟩)) ∧ w'.cell? ⟨b, 4, none⟩ = some (.pointer (some ⟨lb2, 0, none⟩)) ∧ w'.cell? ⟨b, 1, none⟩ = some (.int .i64 r2.id)) w6 := ⟨q4, q5, q6⟩
          refine hK _ _ (.inr hS) ?_
          clear hK K
          try simp only [Act.put, List.setIfInBounds_toArray, List.set_cons_zero, List.set_cons_succ]
          refine anyT_takeL (i := 17) (v := ?vt17) rfl (by kernel_rfl) (by kernel_rfl) (by kernel_rfl) (by kernel_rfl) (by kernel_rfl) (fun _ _ _ h => h) (Or.inl ⟨by rfl, fun wS hSw => ?hyt17⟩) hS ?ret17
          case hyt17 => (dsimp only at hSw; obtain ⟨hS1, hS2, hS3⟩ := hSw; go_simp; try with_reducible rfl)
          try simp only [Act.put, List.setIfInBounds_toArray, List.set_cons_zero, List.set_cons_succ]
          refine anyT_oneL (i := 18) rfl (by kernel_rfl) ?_
          intro K hK
          go_simp
          try dsimp only
          refine hK _ _ (.inl rfl) ?_
          clear hK K hS
          try simp only [Act.put, List.setIfInBounds_toArray, List.set_cons_zero, List.set_cons_succ]
          refine anyT_done (by kernel_rfl) ?_ _
          try clear hS
          -- END
          have hb6' : Below wr.heap.size wr w6 := hb5'.trans (hb6.mono hb5'.size)
          have f6 : ∀ i, w6.frozen? ⟨b, i, none⟩ = false := fun i => (hb6'.frozen (p := ⟨b, i, none⟩) hlt2).trans (f2 i)
          have q7 := (hb6'.cell (p := ⟨b, 6, none⟩) hlt2).trans d6
          have q8 := (hb6'.cell (p := ⟨b, 7, none⟩) hlt2).trans d7
          have HR6 := Lib.hid (hR2.out.below hb6' HW2.out)
          have HB6 := Lib.hid hb6'
          clear hb6' hb6 hb5 hb5' q1 q2 q3 q5 q6
          go_wp2
          go_region
          all_goals
            go_wp2
            go_ret
            have g1 := HR6.out.field hk hkl (r' := { r2 with role := 1 }) 6 (.int .i64 1) (fun _ _ _ => rfl) rfl rfl rfl HR6.out.v6 HR6.out.o6
            have g2 := g1.1.field hk hkl (r' := { r2 with role := 1, leader := 0 }) 7 (.int .i64 0) (fun _ _ _ => rfl) rfl rfl rfl HR6.out.v6 HR6.out.o6
            have hlv : r2.leave = { r2 with role := 1, leader := 0 } := by unfold RaftM.leave; rw [if_pos ⟨HCH.out, HME.out⟩]
            exact ⟨o', ret_bool (by rw [HRR.out]), by rw [HRR.out, hlv]; exact g2.1, (HEX.out.trans (Ext.of_below HB6.out HW2.out)).trans ((g1.2.trans g2.2).mono (S' := [kr, kl]) (by simp)).drew⟩
end Go.Proofs.Ytibkmhacpodceaa
