/- Plain: what a node holds stays within bounds, move by move. -/
import Derived.Test.YtibkmhacpodceaaW21
import Derived.Test.YtibkmhacpodceaaPlain
namespace Go.Proofs.Ytibkmhacpodceaa
open Go.RowKit

def RaftM.fill (r : RaftM) (n : Int) (k : Nat) : RaftM := { r with role := 3, leader := r.id, others := List.replicate k (n, 0) ++ r.others.drop k }

/-- small enough for one thing more -/
structure RaftM.Fits (r : RaftM) : Prop where
  ok : r.Ok
  t : r.term ≤ 10000
  i : r.log.sI + r.log.ents.length ≤ 10000
  out : r.out.length ≤ 30000
  e : r.elapsed ≤ 10000

theorem add_kinds (L : LogM) (t kind : Int) (d : List Int) : L.add t kind d = (0, 1, L) ∨
    (rightB ⟨L.last.1 + 1, t, kind, d⟩ = true ∧ L.add t kind d = (L.last.1 + 1, 0, { L with ents := L.ents ++ [⟨L.last.1 + 1, t, kind, d⟩] })) := by
  unfold LogM.add
  by_cases h : followB (L.last.1 + 1) L.last.2 [⟨L.last.1 + 1, t, kind, d⟩] = true
  · right
    rw [if_pos h]
    refine ⟨?_, rfl⟩
    unfold followB at h
    simp only [Bool.and_eq_true] at h
    exact h.1.1.1
  · left
    rw [if_neg h]
theorem right_members {e : Ent} (h : rightB e = true) (hk : e.kind = 3) : membersB e.data = true := by
  unfold rightB at h
  simp only [Bool.and_eq_true, hk] at h
  have := h.2
  rw [if_neg (by decide), if_neg (by decide), if_pos trivial] at this
  simp only [Bool.and_eq_true] at this
  exact this.2
theorem membersB_bound {l : List Int} (h : membersB l = true) : (∀ q, q ∈ l → 1 ≤ q ∧ q ≤ 5) ∧ l.length ≤ 5 := by
  have hs := membersB_sub h
  refine ⟨fun q hq => ?_, hs.length_le⟩
  have := hs.subset hq
  simp [nodes5] at this; omega
theorem RaftM.Ok.add {r : RaftM} (h : r.Ok) (hi : r.log.sI + r.log.ents.length ≤ 15000) {kind : Int} {d : List Int} (hk0 : 0 ≤ kind) (hk1 : kind ≤ 3) (hd : d.length ≤ 100) : ({ r with log := (r.log.add r.term kind d).2.2 } : RaftM).Ok := by
  rcases add_kinds r.log r.term kind d with he | ⟨hr, he⟩
  · rw [he]; exact h
  · rw [he]
    have l1 := h.log.last1
    have i0 := h.log.i0
    have t0 := h.t0
    have t1 := h.t1
    have c0 := h.log.c0
    have c1 := h.log.c1
    have hL : ({ r.log with ents := r.log.ents ++ [⟨r.log.last.1 + 1, r.term, kind, d⟩] } : LogM).members = if kind = 3 then d else r.log.members := by
      unfold LogM.members
      show LogM.membersOf r.log.sM (r.log.ents ++ _) = _
      rw [membersOf_append]
      rfl
    refine ⟨⟨h.log.i0, h.log.i1, h.log.t0, h.log.t1, by simp; omega, h.log.c0, by simp; omega, h.log.mem, h.log.mlen, fun i hi' => ?_⟩, h.id0, h.id1, h.t0, h.t1, ?_, ?_, h.next0, h.next1, h.match0, h.match1, h.state, h.e0, h.e1⟩
    · simp only [List.length_append, List.length_singleton] at hi'
      by_cases hlt : i < r.log.ents.length
      · rw [List.getElem_append_left hlt]; exact h.log.ent i hlt
      · have : i = r.log.ents.length := by omega
        subst this
        rw [List.getElem_append_right (Nat.le_refl _)]
        simp only [Nat.sub_self, List.getElem_cons_zero]
        exact ⟨⟨by show 0 ≤ r.log.last.1 + 1; omega, by show r.log.last.1 + 1 ≤ 60000; omega, by show 0 ≤ r.term; omega, by show r.term ≤ 30000; omega, hk0, hk1, hd⟩, by show r.log.last.1 + 1 = _; omega⟩
    · rw [hL]
      split
      · exact (membersB_bound (right_members hr (by assumption))).1
      · exact h.mem
    · rw [hL]
      split
      · exact (membersB_bound (right_members hr (by assumption))).2
      · exact h.mlen
theorem others_rep (n : Int) (q : Int) : (((List.replicate 6 ((n, 0) : Int × Int))[q.toNat]?).getD (0, 0)).1 = (if q.toNat < 6 then n else 0) ∧ (((List.replicate 6 ((n, 0) : Int × Int))[q.toNat]?).getD (0, 0)).2 = 0 := by
  rw [List.getElem?_replicate]
  split <;> simp
theorem fill_ok {r : RaftM} (h : r.Ok) {n : Int} (h0 : 0 ≤ n) (h1 : n ≤ 60000) (h6 : r.others.length = 6) : (r.fill n 6).Ok := by
  have he : (r.fill n 6).others = List.replicate 6 (n, 0) := by simp [RaftM.fill, h6]
  refine ⟨h.log, h.id0, h.id1, h.t0, h.t1, h.mem, h.mlen, fun q => ?_, fun q => ?_, fun q => ?_, fun q => ?_, h.state, h.e0, h.e1⟩
  all_goals
    have := others_rep n q
    simp only [RaftM.next, RaftM.match_, he]
  · rw [this.1]; split <;> omega
  · rw [this.1]; split <;> omega
  · rw [this.2]; omega
  · rw [this.2]; omega
theorem fill_step {r : RaftM} {n : Int} {k : Nat} (hk : k < 6) (h6 : r.others.length = 6) (x : Int × Int) : ((r.fill n k).others.set k x).set k (n, 0) = (r.fill n (k + 1)).others := by
  have hl : ((List.replicate k ((n, 0) : Int × Int)) ++ r.others.drop k).length = 6 := by simp; omega
  simp only [RaftM.fill, List.set_set]
  apply List.ext_getElem?
  intro i
  rw [List.getElem?_set]
  by_cases hi : k = i
  · subst hi
    rw [if_pos rfl, if_pos (by omega), List.getElem?_append_left (by simp), List.getElem?_replicate, if_pos (by omega)]
  · rw [if_neg hi]
    by_cases hlt : i < k
    · rw [List.getElem?_append_left (by simpa using hlt), List.getElem?_append_left (by simp; omega), List.getElem?_replicate, List.getElem?_replicate, if_pos hlt, if_pos (by omega)]
    · rw [List.getElem?_append_right (by simp; omega), List.getElem?_append_right (by simp; omega), List.getElem?_drop, List.getElem?_drop]
      congr 1
      simp; omega
theorem fill_others {r r2 : RaftM} {n : Int} {k : Nat} (h : r2 = { r.fill n k with others := r2.others }) {l : List (Int × Int)} (hl : l = (r.fill n (k + 1)).others) : ({ r2 with others := l } : RaftM) = r.fill n (k + 1) := by
  rw [hl, h]; rfl


theorem RaftM.Ok.leave {r : RaftM} (h : r.Ok) : r.leave.Ok := by
  unfold RaftM.leave
  split
  · exact ⟨h.log, h.id0, h.id1, h.t0, h.t1, h.mem, h.mlen, h.next0, h.next1, h.match0, h.match1, h.state, h.e0, h.e1⟩
  · exact h
theorem RaftM.Ok.commitM {r : RaftM} (h : r.Ok) : r.commitM.2.Ok := by
  unfold RaftM.commitM
  dsimp only
  split
  · exact h.mark.leave
  · exact (h.mark.settle _).leave
theorem leave_out (r : RaftM) : r.leave.out = r.out ∧ r.leave.id = r.id ∧ r.leave.term = r.term ∧ r.leave.log = r.log ∧ r.leave.others = r.others := by
  unfold RaftM.leave
  split <;> exact ⟨rfl, rfl, rfl, rfl, rfl⟩
theorem commitM_out (r : RaftM) : r.commitM.2.out = r.out := by
  unfold RaftM.commitM
  dsimp only
  split
  · exact (leave_out _).1
  · exact (leave_out _).1

theorem RaftM.Fits.stand {r : RaftM} (h : r.Fits) (ht : r.term < 10000) : r.stand.Fits := by
  have t0 := h.ok.t0
  exact ⟨⟨h.ok.log, h.ok.id0, h.ok.id1, by show 0 ≤ r.term + 1; omega, by show r.term + 1 ≤ 20000; omega, h.ok.mem, h.ok.mlen, h.ok.next0, h.ok.next1, h.ok.match0, h.ok.match1, h.ok.state, Int.le_refl _, by show (0 : Int) ≤ 20000; omega⟩, by show r.term + 1 ≤ 10000; omega, h.i, h.out, by show (0 : Int) ≤ 10000; omega⟩

def RaftM.ask (r : RaftM) (a c p : Int) : Msg := { kind := 1, group := r.group, from_ := r.id, term := r.term, to_ := p, index := a, logTerm := c }
theorem askEach_eq (r : RaftM) (a c : Int) : ∀ l : List Int, r.askEach a c l = { r with out := r.out ++ (l.filter fun p => decide (p ≠ r.id)).map (r.ask a c) } := by
  intro l
  have key : ∀ (l : List Int) (x : List Msg), ({ r with out := x } : RaftM).askEach a c l = { r with out := x ++ (l.filter fun p => decide (p ≠ r.id)).map (r.ask a c) } := by
    intro l
    induction l with
    | nil => intro x; simp [RaftM.askEach]
    | cons p l ih =>
      intro x
      rw [RaftM.askEach]
      by_cases hp : p = r.id
      · simp only [hp, ne_eq, not_true_eq_false, if_false]
        rw [ih]; simp
      · simp only [ne_eq, hp, not_false_eq_true, if_true]
        show ({ r with out := x ++ [r.ask a c p] } : RaftM).askEach a c l = _
        rw [ih]
        simp [hp]
  exact key l r.out
theorem askEach_snoc (r : RaftM) (a c : Int) (l : List Int) (p : Int) : r.askEach a c (l ++ [p]) = if p ≠ r.id then (r.askEach a c l).send { kind := 1, to_ := p, index := a, logTerm := c } else r.askEach a c l := by
  rw [askEach_eq, askEach_eq]
  by_cases hp : p = r.id
  · simp [hp]
  · simp [hp, RaftM.send, RaftM.ask]
theorem askEach_len (r : RaftM) (a c : Int) (l : List Int) : (r.askEach a c l).out.length ≤ r.out.length + l.length := by
  rw [askEach_eq]
  simp only [List.length_append, List.length_map]
  have := List.length_filter_le (fun p => decide (p ≠ r.id)) l
  omega

theorem RaftAt.setPair {o : Own} {kr kl : Nat} {w : World} {b : Nat} {q : RaftM} (h : RaftAt o kr kl w b q) (hk : kr ≠ 0) (hkl : kr ≠ kl) (k : Nat) (hk6 : k < 6) (n m : Int) :
    RaftAt o kr kl ((w.setCell ⟨b, 15 + k * 2, none⟩ (.int .i64 n)).setCell ⟨b, 15 + k * 2 + 1, none⟩ (.int .i64 m)) b { q with others := q.others.set k (n, m) } ∧ Ext [kr] o o w ((w.setCell ⟨b, 15 + k * 2, none⟩ (.int .i64 n)).setCell ⟨b, 15 + k * 2 + 1, none⟩ (.int .i64 m)) := by
  have v6 := h.v6
  have o6 := h.o6
  obtain ⟨q1, hq1⟩ : ∃ q1 : RaftM, q1 = { q with others := q.others.set k (n, ((q.others[k]?).getD (0, 0)).2) } := ⟨_, rfl⟩
  have w6 : q1.votes.length = 6 := by rw [hq1]; exact v6
  have p6 : q1.others.length = 6 := by rw [hq1]; simpa using o6
  have g1 := h.field hk hkl (r' := q1) (15 + k * 2) (.int .i64 n) (fun _ _ _ => by rw [hq1]; exact raftCells_setNext v6 o6 k hk6 n) (by rw [hq1]) (by rw [hq1]) (by rw [hq1]) w6 p6
  have hget : q1.others[k]? = some (n, ((q.others[k]?).getD (0, 0)).2) := by
    rw [hq1]
    show (q.others.set k _)[k]? = _
    rw [List.getElem?_set, if_pos rfl, if_pos (by omega)]
  have g2 := g1.1.field hk hkl (r' := { q with others := q.others.set k (n, m) }) (15 + k * 2 + 1) (.int .i64 m) (fun _ _ _ => by
    rw [raftCells_setMatch w6 p6 k hk6 m, hget, hq1]
    simp only [List.set_set, Option.getD_some]) (by rw [hq1]) (by rw [hq1]) (by rw [hq1]) v6 (by simpa using o6)
  exact ⟨g2.1, g1.2.trans g2.2⟩
theorem fill_set {r : RaftM} {n : Int} {k : Nat} (hk : k < 6) (h6 : r.others.length = 6) : ({ r.fill n k with others := (r.fill n k).others.set k (n, 0) } : RaftM) = r.fill n (k + 1) :=
  fill_others (r2 := r.fill n k) (k := k) rfl (by have := fill_step hk h6 (n, 0) (n := n); rwa [List.set_set] at this)
end Go.Proofs.Ytibkmhacpodceaa

/- Walks: elected. -/
namespace Go.Proofs.Ytibkmhacpodceaa
open Go.RowKit

def ElectedIs (o : Own) (kr kl : Nat) (b : Nat) (r : RaftM) (w : World) (e : Ending) (w' : World) : Prop :=
  ∃ o', e = .returned (.bool r.elected.1) ∧ RaftAt o' kr kl w' b r.elected.2 ∧ Ext [kr, kl] o o' w w'

set_option maxHeartbeats 4000000 in
theorem elected41 (o : Own) (kr kl : Nat) (b : Nat) (r : RaftM) (w : World) (h : RaftAt o kr kl w b r) (hf : r.Fits) (hw : Wf o w) (hk : kr ≠ 0) (hkl : kr ≠ kl) (hl0 : kl ≠ 0) :
    Calls Try.prog 41 #[.pointer (some ⟨b, 0, none⟩)] w (ElectedIs o kr kl b r w) := by
  have H := Lib.hid h
  have HF := Lib.hid hf
  obtain ⟨lb, As, ns, cs, Ao, no, co, ⟨c0, c1, c2, c3, c4, c5, c6, c7, c8, c27, f, hlt⟩, ho, hL, hs, _, h6, h7, _⟩ := h.open_
  have HL := Lib.hid hL
  have H67 := Lib.hid (And.intro h6 h7)
  have hid0 := hf.ok.id0
  have hid1 := hf.ok.id1
  have hll := hf.ok.log.len
  clear h hf hL hs h6 h7
  go_enter Try.func41, Try.ntmps41
  have hbA : Below w.heap.size w (w.alloc (.cells #[.pointer (some ⟨b, 0, none⟩)] 36)) := (Below.refl _ _).alloc (Nat.le_refl _) _
  have HB0 := Lib.hid (Blk.new w 36 [.pointer (some ⟨b, 0, none⟩)])
  go_wp2_with fail
  refine (majority67v o kr kl b w.heap.size r _ (H.out.below hbA hw) HF.out.ok.log HF.out.ok.mem HF.out.ok.mlen (fun b hb => hw b (by simp at hb; omega)) (HB0.out.cells 0)).mono ?_
  rintro e w1 ⟨rfl, hb1⟩
  have hb01 : Below w.heap.size w w1 := hbA.trans (hb1.mono (by simp))
  have HB1 := Lib.hid (HB0.out.same (hb1.block w.heap.size (by simp)))
  have HR1 := Lib.hid (H.out.below hb01 hw)
  clear hbA hb1 HB0
  by_cases hmj : r.majority r.voted = true
  · have HMJ := Lib.hid hmj
    clear hmj
    rw [HMJ.out]
    have kp := HB1.out.cells 0
    have k4 : w1.cell? ⟨b, 4, none⟩ = some (.pointer (some ⟨lb, 0, none⟩)) := (hb01.cell (p := ⟨b, 4, none⟩) hlt).trans c4
    clear c0 c1 c2 c3 c4 c5 c6 c7 c8 c27
    go_wp2_with fail
    refine (last28 o kl lb r.log _ (HL.out.below hb01) hll).mono ?_
    rintro e w2 ⟨rfl, hb2⟩
    have hb02 : Below w.heap.size w w2 := hb01.trans (hb2.mono hb01.size)
    have HB2 := Lib.hid (HB1.out.same (hb2.block w.heap.size HB1.out.lt))
    have HR2 := Lib.hid (H.out.below hb02 hw)
    obtain ⟨lb2, As2, ns2, cs2, Ao2, no2, co2, ⟨d0, d1, d2, d3, d4, d5, d6, d7, d8, d27, f2, hlt2⟩, _⟩ := HR2.out.open_
    have kp2 := HB2.out.cells
    have hpne : w.heap.size ≠ b := by omega
    have hpl := HB2.out.lt
    clear hb2 kp k4 d0 d2 d3 d4 d5 d8 d27
    go_wp2
    go_region
    have g1 := HR2.out.field hk hkl (r' := { r with role := 3 }) 6 (.int .i64 3) (fun _ _ _ => rfl) rfl rfl rfl HR2.out.v6 HR2.out.o6
    have g2 := g1.1.field hk hkl (r' := { r with role := 3, leader := r.id }) 7 (.int .i64 r.id) (fun _ _ _ => rfl) rfl rfl rfl HR2.out.v6 HR2.out.o6
    refine (fun (HH : ∀ V : World, Hid (RaftAt o kr kl V b (r.fill (r.log.last.1 + 1) 0) ∧ Ext [kr] o o w V ∧ Blk V w.heap.size 36 [.pointer (some ⟨b, 0, none⟩)]) → Exit.then _ _ _ _ V) => HH _ ?_) ?_
    · exact ⟨by have := g2.1.drew; simpa [RaftM.fill] using this, ((Ext.of_below hb02 hw).trans (g1.2.trans g2.2)).drew, ((HB2.out.far hpne _).far hpne _).drew⟩
    intro V HV
    have HLB : Hid (0 ≤ r.log.last.1 ∧ r.log.last.1 ≤ 20000) := by
      unfold Hid
      rw [HF.out.ok.log.last1]
      have := HF.out.i
      have := HF.out.ok.log.i0
      omega
    have hlb0 := HLB.out.1
    have hlb1 := HLB.out.2
    have HLL : Hid (∃ x, x = r.log.last.1) := ⟨_, rfl⟩
    generalize hlg : r.log.last.1 = last at *
    have HLG := Lib.hid hlg
    generalize r.log.last.2 = lt at *
    clear hlg g1 g2 d1 d6 d7 kp2 f2 hpl hlt2 HLB HLL
    go_wp2
    go_loopw [28] (fun i wr => ∃ k : Nat, k ≤ 6 ∧ i = .int .i64 k ∧ Hid (RaftAt o kr kl wr b (r.fill (last + 1) k) ∧ Ext [kr] o o w wr ∧ Blk wr w.heap.size 36 [.pointer (some ⟨b, 0, none⟩)])) (fun i _ => 6 - (intOf i).toNat)
    case atStart => exact ⟨0, by omega, rfl, HV⟩
    case round =>
      obtain ⟨k, hk6, rfl, HK⟩ := hrel
      obtain ⟨hRk, hEk, hBk⟩ := HK.out
      have kp := hBk.cells
      obtain ⟨lb3, As3, ns3, cs3, Ao3, no3, co3, ⟨e0, e1, e2, e3, e4, e5, e6, e7, e8, e27, f3, hlt3⟩, ho3, _, _, _, v6, o6, hB3⟩ := hRk.open_
      have hpl := hBk.lt
      clear hRk hEk hBk e0 e1 e2 e3 e5 e6 e7 e8 e27
      by_cases hlt6 : k < 6
      · have q1 : wr.cell? ⟨b, 15 + k * 2, none⟩ = some (.int .i64 ((r.fill (last + 1) k).next k)) := (hB3.cells _).trans (raftCells_next v6 o6 k hlt6)
        have q2 : wr.cell? ⟨b, 15 + k * 2 + 1, none⟩ = some (.int .i64 ((r.fill (last + 1) k).match_ k)) := (hB3.cells _).trans (raftCells_match v6 o6 k hlt6)
        clear hB3 e4
        go_wp2
        go_roundw
        case rel =>
          obtain ⟨hRk, hEk, hBk⟩ := HK.out
          have g2 := hRk.setPair hk hkl k hlt6 (last + 1) 0
          rw [fill_set hlt6 H67.out.2] at g2
          exact ⟨k + 1, by omega, by go_num, g2.1, hEk.trans g2.2, (hBk.far hpne _).far hpne _⟩
        case measure => simp [intOf]; omega
      · obtain rfl : k = 6 := by omega
        obtain ⟨hRk, hEk, hBk⟩ := HK.out
        have HR6 := Lib.hid hRk
        have HE6 := Lib.hid hEk
        have HB6 := Lib.hid hBk
        have hq2 : wr.cell? ⟨b, 2, none⟩ = some (.int .i64 r.term) := hB3.cells 2
        have HL6 : Hid (LogAt o kl wr lb3 r.log) := by
          obtain ⟨lb', _, _, _, _, _, _, ⟨_, _, _, _, e4', _⟩, _, hL', _⟩ := hRk.open_
          rw [e4] at e4'
          simp only [Option.some.injEq, Value.pointer.injEq, Addr.mk.injEq, and_true] at e4'
          subst e4'
          exact hL'
        have HOK6 : Hid ((r.fill (last + 1) 6).Ok) := fill_ok HF.out.ok (by omega) (by omega) H67.out.2
        have HW6 : Hid (Wf o wr) := fun b hb => hw b (Nat.le_trans hEk.size hb)
        clear hRk hEk hBk hB3 HK
        go_wp2
        -- BLOCK add
        have hS : (fun w' : World => (∀ i, w'.cell? ⟨w.heap.size, i, none⟩ = [Value.pointer (some ⟨b, 0, none⟩)][i]?) ∧ w'.cell? ⟨b, 4, none⟩ = some (.pointer (some ⟨lb3, 0, none⟩)) ∧ w'.cell? ⟨b, 2, none⟩ = some (.int .i64 r.term)) wr.drew := ⟨kp, e4, hq2⟩
        refine wp_region_T 8 (fun w' : World => (∀ i, w'.cell? ⟨w.heap.size, i, none⟩ = [Value.pointer (some ⟨b, 0, none⟩)][i]?) ∧ w'.cell? ⟨b, 4, none⟩ = some (.pointer (some ⟨lb3, 0, none⟩)) ∧ w'.cell? ⟨b, 2, none⟩ = some (.int .i64 r.term)) (by kernel_rfl) ?_
        refine anyT_takeL (i := 0) (v := ?va0) rfl (by kernel_rfl) (by kernel_rfl) (by kernel_rfl) (by kernel_rfl) (by kernel_rfl) (fun _ _ _ h => h) (Or.inl ⟨by rfl, fun wS hSw => ?hya0⟩) hS ?rea0
        case hya0 => (dsimp only at hSw; obtain ⟨hS1, hS2, hS3⟩ := hSw; go_simp; try with_reducible rfl)
        try simp only [Act.put, List.setIfInBounds_toArray, List.set_cons_zero, List.set_cons_succ]
        refine anyT_takeL (i := 1) (v := ?va1) rfl (by kernel_rfl) (by kernel_rfl) (by kernel_rfl) (by kernel_rfl) (by kernel_rfl) (fun _ _ _ h => h) (Or.inl ⟨by rfl, fun wS hSw => ?hya1⟩) hS ?rea1
        case hya1 => (dsimp only at hSw; obtain ⟨hS1, hS2, hS3⟩ := hSw; go_simp; try with_reducible rfl)
        try simp only [Act.put, List.setIfInBounds_toArray, List.set_cons_zero, List.set_cons_succ]
        refine anyT_takeL (i := 2) (v := ?va2) rfl (by kernel_rfl) (by kernel_rfl) (by kernel_rfl) (by kernel_rfl) (by kernel_rfl) (fun _ _ _ h => h) (Or.inl ⟨by rfl, fun wS hSw => ?hya2⟩) hS ?rea2
        case hya2 => (dsimp only at hSw; obtain ⟨hS1, hS2, hS3⟩ := hSw; go_simp; try with_reducible rfl)
        try simp only [Act.put, List.setIfInBounds_toArray, List.set_cons_zero, List.set_cons_succ]
        refine anyT_takeL (i := 3) (v := ?va3) rfl (by kernel_rfl) (by kernel_rfl) (by kernel_rfl) (by kernel_rfl) (by kernel_rfl) (fun _ _ _ h => h) (Or.inl ⟨by rfl, fun wS hSw => ?hya3⟩) hS ?rea3
        case hya3 => (dsimp only at hSw; obtain ⟨hS1, hS2, hS3⟩ := hSw; go_simp; try with_reducible rfl)
        try simp only [Act.put, List.setIfInBounds_toArray, List.set_cons_zero, List.set_cons_succ]
        refine anyT_takeL (i := 4) (v := ?va4) rfl (by kernel_rfl) (by kernel_rfl) (by kernel_rfl) (by kernel_rfl) (by kernel_rfl) (fun _ _ _ h => h) (Or.inl ⟨by rfl, fun wS hSw => ?hya4⟩) hS ?rea4
        case hya4 => (dsimp only at hSw; obtain ⟨hS1, hS2, hS3⟩ := hSw; go_simp; try with_reducible rfl)
        try simp only [Act.put, List.setIfInBounds_toArray, List.set_cons_zero, List.set_cons_succ]
        refine anyT_takeL (i := 5) (v := ?va5) rfl (by kernel_rfl) (by kernel_rfl) (by kernel_rfl) (by kernel_rfl) (by kernel_rfl) (fun _ _ _ h => h) (Or.inl ⟨by rfl, fun wS hSw => ?hya5⟩) hS ?rea5
        case hya5 => (dsimp only at hSw; obtain ⟨hS1, hS2, hS3⟩ := hSw; go_simp; try with_reducible rfl)
        try simp only [Act.put, List.setIfInBounds_toArray, List.set_cons_zero, List.set_cons_succ]
        refine anyT_takeL (i := 6) (v := ?va6) rfl (by kernel_rfl) (by kernel_rfl) (by kernel_rfl) (by kernel_rfl) (by kernel_rfl) (fun _ _ _ h => h) (Or.inl ⟨by rfl, fun wS hSw => ?hya6⟩) hS ?rea6
        case hya6 => (dsimp only at hSw; obtain ⟨hS1, hS2, hS3⟩ := hSw; go_simp; try with_reducible rfl)
        try simp only [Act.put, List.setIfInBounds_toArray, List.set_cons_zero, List.set_cons_succ]
        refine anyT_takeL (i := 7) (v := ?va7) rfl (by kernel_rfl) (by kernel_rfl) (by kernel_rfl) (by kernel_rfl) (by kernel_rfl) (fun _ _ _ h => h) (Or.inl ⟨by rfl, fun wS hSw => ?hya7⟩) hS ?rea7
        case hya7 => (dsimp only at hSw; obtain ⟨hS1, hS2, hS3⟩ := hSw; go_simp; try with_reducible rfl)
        try simp only [Act.put, List.setIfInBounds_toArray, List.set_cons_zero, List.set_cons_succ]
        refine anyT_oneL (i := 8) rfl (by kernel_rfl) ?_
        intro K hK
        go_simp
        refine (add69 o kl lb3 r.log r.term 1 [] none 0 0 Any _ (show LogAt o kl wr.drew lb3 r.log from HL6.out) HF.out.ok.log (show Wf o wr.drew from HW6.out) hl0 SliceOf.nil_ (by simp)).mono ?_
        rintro e w3 ⟨o1, rfl, hL3, he3⟩
        have HE7 := Lib.hid he3.undrew
        have HR7 := Lib.hid (HR6.out.putLog e4 hkl hl0 HE7.out hL3)
        have HOP : Hid (o1 w.heap.size = 0) := (HE7.out.own _ HB6.out.lt).trans (hw _ (Nat.le_refl _))
        have HB7 := Lib.hid (HE7.out.blk HB6.out (by rw [hw _ (Nat.le_refl _)]; simpa using hl0.symm))
        have kp7 := HB7.out.cells
        have hpl7 := HB7.out.lt
        have HW7 : Hid (Wf o1 w3) := HE7.out.wf HW6.out
        have HOK7 : Hid (({ r.fill (last + 1) 6 with log := (r.log.add r.term 1 []).2.2 } : RaftM).Ok) := HOK6.out.add (by have := HF.out.i; show r.log.sI + r.log.ents.length ≤ 15000; omega) (by omega) (by omega) (by simp)
        clear hL3 he3
        try dsimp only
        refine hK _ _ (.inl rfl) ?_
        clear hK K hS
        try simp only [Act.put, List.setIfInBounds_toArray, List.set_cons_zero, List.set_cons_succ]
        refine anyT_done (by kernel_rfl) ?_ _
        try clear hS
        -- END
        go_wp2_with fail
        refine (commit70 o1 kr kl b _ _ HR7.out HOK7.out HW7.out hk hkl hl0).mono ?_
        rintro e w4 ⟨o2, rfl, hR4, he4⟩
        have HB4 := Lib.hid (he4.blk HB7.out (by rw [HOP.out]; simp [hk.symm, hl0.symm]))
        have kp4 := HB4.out.cells
        have hpl4 := HB4.out.lt
        have HR4 := Lib.hid hR4
        have HE4 := Lib.hid he4
        clear hR4 he4 kp7
        go_wp2_with fail
        refine (sendAll33 o2 kr kl b _ _ HR4.out HOK7.out.commitM (HE4.out.wf HW7.out) hk hkl (by rw [commitM_out]; have := HF.out.out; show r.out.length ≤ 40000; omega)).mono ?_
        rintro e w5 ⟨⟨v5, rfl⟩, o3, hR5, he5⟩
        have HR5 := Lib.hid hR5
        have HE5 := Lib.hid he5
        clear hR5 he5 kp4
        go_wp2
        go_ret
        have hel : r.elected = (true, (({ r.fill (last + 1) 6 with log := (r.log.add r.term 1 []).2.2 } : RaftM).commitM.2).sendAll) := by
          unfold RaftM.elected
          rw [if_pos HMJ.out]
          unfold RaftM.lead
          have : r.fill (last + 1) 6 = { r with role := 3, leader := r.id, others := List.replicate 6 (r.log.last.1 + 1, 0) } := by
            rw [HLG.out]; simp [RaftM.fill, H67.out.2]
          rw [this]
        exact ⟨o3, ret_bool (by rw [hel]), by rw [hel]; exact HR5.out, ((HE6.out.mono (by simp)).trans (HE7.out.mono (by simp))).trans (HE4.out.trans (HE5.out.mono (by simp)))⟩
  · have hmj : r.majority r.voted = false := by simpa using hmj
    have HMJ := Lib.hid hmj
    clear hmj
    rw [HMJ.out]
    have hel : r.elected = (false, r) := by unfold RaftM.elected; rw [if_neg (by rw [HMJ.out]; simp)]
    have HEL := Lib.hid hel
    clear hel
    go_wp2
    go_ret
    exact ⟨o, ret_bool (by rw [HEL.out]), by rw [HEL.out]; exact HR1.out, Ext.of_below hb01 hw⟩
end Go.Proofs.Ytibkmhacpodceaa

/- Walks: want. -/
namespace Go.Proofs.Ytibkmhacpodceaa
open Go.RowKit

theorem Blk.eqv {w : World} {g : Nat} {t : TypeId} {cs cs' : List Value} (h : Blk w g t cs) (e : cs = cs') : Blk w g t cs' := e ▸ h

/-- only the node's own block is written, and not its log, its state, its row -/
theorem RaftAt.only {o : Own} {kr kl : Nat} {w W : World} {b : Nat} {r r' : RaftM} (h : RaftAt o kr kl w b r) (hk : kr ≠ 0) (hkl : kr ≠ kl) (hO : Only b w W)
    (hB : ∀ lb sv ov, Blk w b 79 (raftCells r lb sv ov) → Blk W b 79 (raftCells r' lb sv ov)) (hl : r'.log = r.log) (hst : r'.state = r.state) (hou : r'.out = r.out) (h6 : r'.votes.length = 6) (h7 : r'.others.length = 6) :
    RaftAt o kr kl W b r' ∧ Ext [kr] o o w W := by
  obtain ⟨lb, A, n, c, A2, n2, c2, hb, ho, hL, hs, hr, _, _⟩ := h
  have hst0 : Stays (Of o 0) (Of o 0) w W := hO.stays (by simp [Of, ho, hk])
  have he : Ext [kr] o o w W := hO.ext (by simp [ho])
  refine ⟨⟨lb, A, n, c, A2, n2, c2, hB _ _ _ hb, ho, ?_, ?_, ?_, h6, h7⟩, he⟩
  · obtain ⟨A', n', c', A2', n2', c2', hb', ho', hm', hr'⟩ := hL
    rw [hl]
    have hne : lb ≠ b := by rintro rfl; rw [ho] at ho'; exact hkl ho'
    exact ⟨A', n', c', A2', n2', c2', hb'.same (hO.block _ hne), ho', IntsAt.stays hm' hst0, hr'.stays (hO.stays (by simp only [Of]; rw [ho]; exact hkl)) fun _ _ => EntR.stays hst0⟩
  · rw [hst]; exact BytesAt.stays hs hst0
  · rw [hou]
    obtain ⟨A', c', xs, e1, e2, e3, e4, e5⟩ := hr
    refine ⟨A', c', xs, e1, e2, e3, e4.imp fun _ _ => MsgR.stays hst0, fun h0 => ?_⟩
    obtain ⟨g, cur, f1, f2, f3, f4, f5⟩ := e5 h0
    have hne : g ≠ b := by
      rintro rfl
      unfold Blk at hb
      rw [f3] at hb
      injection hb with hb
      injection hb with _ ht
      exact absurd ht (by decide)
    exact ⟨g, cur, f1, f2, (hO.block _ hne).trans f3, f4, f5⟩

def RaftM.stand0 (r : RaftM) : RaftM := { r with term := r.term + 1, vote := r.id, role := 2, leader := 0, elapsed := 0, votes := List.replicate 6 false }

def WantIs (o : Own) (kr kl : Nat) (b : Nat) (r : RaftM) (w : World) (e : Ending) (w' : World) : Prop :=
  (∃ v, e = .returned v) ∧ ∃ o', RaftAt o' kr kl w' b r ∧ Ext [kr, kl] o o' w w'

set_option maxHeartbeats 4000000 in
theorem want36 (o : Own) (kr kl : Nat) (b : Nat) (r : RaftM) (w : World) (h : RaftAt o kr kl w b r) (hf : r.Fits) (htt : r.term < 10000) (hw : Wf o w) (hk : kr ≠ 0) (hkl : kr ≠ kl) (hl0 : kl ≠ 0) :
    Calls Try.prog 36 #[.pointer (some ⟨b, 0, none⟩)] w (WantIs o kr kl b r.want w) := by
  have H := Lib.hid h
  have HF := Lib.hid hf
  obtain ⟨lb, As, ns, cs, Ao, no, co, ⟨c0, c1, c2, c3, c4, c5, c6, c7, c8, c27, f, hlt⟩, ho, hL, hs, _, h6, h7, hB⟩ := h.open_
  have hcells := hB.cells
  have H67 := Lib.hid (And.intro h6 h7)
  have hid0 := hf.ok.id0
  have hid1 := hf.ok.id1
  have hid2 : 0 ≤ r.id := by omega
  have hid3 : r.id < 6 := by omega
  have ht0 := hf.ok.t0
  have ht1 := hf.t
  have hne : (r.term == 9007199254740991) = false := by simp; omega
  obtain ⟨v0, v1, v2, v3, v4, v5, hv⟩ := six h6
  have HV := Lib.hid hv
  have k9 : w.cell? ⟨b, 9, none⟩ = some (.bool v0) := by rw [hcells]; simp [raftCells, hv]
  have k10 : w.cell? ⟨b, 10, none⟩ = some (.bool v1) := by rw [hcells]; simp [raftCells, hv]
  have k11 : w.cell? ⟨b, 11, none⟩ = some (.bool v2) := by rw [hcells]; simp [raftCells, hv]
  have k12 : w.cell? ⟨b, 12, none⟩ = some (.bool v3) := by rw [hcells]; simp [raftCells, hv]
  have k13 : w.cell? ⟨b, 13, none⟩ = some (.bool v4) := by rw [hcells]; simp [raftCells, hv]
  have k14 : w.cell? ⟨b, 14, none⟩ = some (.bool v5) := by rw [hcells]; simp [raftCells, hv]
  clear h hf hL hs h6 h7 hv hcells hB
  go_enter Try.func36, Try.ntmps36
  go_upto_region 4 with (fail)
  have hst := H.out.only (W := (((((((((((w.setCell ⟨b, 2, none⟩ (.int .i64 (r.term + 1))).setCell ⟨b, 3, none⟩ (.int .i64 r.id)).setCell ⟨b, 6, none⟩ (.int .i64 2)).setCell ⟨b, 7, none⟩ (.int .i64 0)).setCell ⟨b, 8, none⟩ (.int .i64 0)).setCell ⟨b, 9, none⟩ (.bool false)).setCell ⟨b, 10, none⟩ (.bool false)).setCell ⟨b, 11, none⟩ (.bool false)).setCell ⟨b, 12, none⟩ (.bool false)).setCell ⟨b, 13, none⟩ (.bool false)).setCell ⟨b, 14, none⟩ (.bool false))) (r' := r.stand0) hk hkl
    (((((((((((((Only.refl b w).setCell 2 _).setCell 3 _).setCell 6 _).setCell 7 _).setCell 8 _).setCell 9 _).setCell 10 _).setCell 11 _).setCell 12 _).setCell 13 _).setCell 14 _))
    (fun lb sv ov hB => by
      have := ((((((((((hB.set_ 2 (.int .i64 (r.term + 1))).set_ 3 (.int .i64 r.id)).set_ 6 (.int .i64 2)).set_ 7 (.int .i64 0)).set_ 8 (.int .i64 0)).set_ 9 (.bool false)).set_ 10 (.bool false)).set_ 11 (.bool false)).set_ 12 (.bool false)).set_ 13 (.bool false)).set_ 14 (.bool false)
      exact this.eqv (by simp [raftCells, HV.out, RaftM.stand0, List.replicate])) rfl rfl rfl rfl H67.out.2
  refine (fun (HH : ∀ V : World, Hid (RaftAt o kr kl V b r.stand0 ∧ Ext [kr] o o w V) → Code.wp Try.prog _ _ _ V) => HH _ hst) ?_
  intro V HV0
  clear hst
  obtain ⟨hR0, hE0⟩ := HV0.out
  obtain ⟨lb0, As0, ns0, cs0, Ao0, no0, co0, ⟨d0, d1, d2, d3, d4, d5, d6, d7, d8, d27, f0, hlt0⟩, _, _, _, _, v60, o60, hB0⟩ := hR0.open_
  have q1 : V.cell? ⟨b, 1, none⟩ = some (.int .i64 r.id) := d1
  have q9 : V.cell? ⟨b, 9 + r.id.toNat, none⟩ = some (.bool false) := by
    rw [hB0.cells, raftCells_vote v60 r.id.toNat (by omega)]
    simp only [RaftM.stand0, List.getElem?_replicate, if_pos (show r.id.toNat < 6 by omega), Option.getD_some]
  have g1 := hR0.drew.field hk hkl (r' := r.stand) (9 + r.id.toNat) (.bool true) (fun _ _ _ => raftCells_setVote v60 r.id.toNat (by omega) true) rfl rfl rfl (by simp [RaftM.stand]) o60
  have HG1 := Lib.hid g1
  clear g1 hB0 d0 d1 d2 d3 d4 d5 d6 d7 d8 d27 c0 c1 c2 c3 c4 c5 c6 c7 c8 c27 f k9 k10 k11 k12 k13 k14 hR0
  -- BLOCK own
  have hS : (fun w' : World => w'.cell? ⟨b, 1, none⟩ = some (.int .i64 r.id)) V.drew := q1
  refine wp_region_T 8 (fun w' : World => w'.cell? ⟨b, 1, none⟩ = some (.int .i64 r.id)) (by kernel_rfl) ?_
  refine anyT_takeL (i := 0) (v := ?vo0) rfl (by kernel_rfl) (by kernel_rfl) (by kernel_rfl) (by kernel_rfl) (by kernel_rfl) (fun _ _ _ h => h) (Or.inl ⟨by rfl, fun wS hSw => ?hyo0⟩) hS ?reo0
  case hyo0 => (dsimp only at hSw; obtain hS1 := hSw; go_simp; try with_reducible rfl)
  try simp only [Act.put, List.setIfInBounds_toArray, List.set_cons_zero, List.set_cons_succ]
  refine anyT_takeL (i := 1) (v := ?vo1) rfl (by kernel_rfl) (by kernel_rfl) (by kernel_rfl) (by kernel_rfl) (by kernel_rfl) (fun _ _ _ h => h) (Or.inl ⟨by rfl, fun wS hSw => ?hyo1⟩) hS ?reo1
  case hyo1 => (dsimp only at hSw; obtain hS1 := hSw; go_simp; try with_reducible rfl)
  try simp only [Act.put, List.setIfInBounds_toArray, List.set_cons_zero, List.set_cons_succ]
  refine anyT_takeL (i := 2) (v := ?vo2) rfl (by kernel_rfl) (by kernel_rfl) (by kernel_rfl) (by kernel_rfl) (by kernel_rfl) (fun _ _ _ h => h) (Or.inl ⟨by rfl, fun wS hSw => ?hyo2⟩) hS ?reo2
  case hyo2 => (dsimp only at hSw; obtain hS1 := hSw; go_simp; try with_reducible rfl)
  try simp only [Act.put, List.setIfInBounds_toArray, List.set_cons_zero, List.set_cons_succ]
  refine anyT_takeL (i := 3) (v := ?vo3) rfl (by kernel_rfl) (by kernel_rfl) (by kernel_rfl) (by kernel_rfl) (by kernel_rfl) (fun _ _ _ h => h) (Or.inl ⟨by rfl, fun wS hSw => ?hyo3⟩) hS ?reo3
  case hyo3 => (dsimp only at hSw; obtain hS1 := hSw; go_simp; try with_reducible rfl)
  try simp only [Act.put, List.setIfInBounds_toArray, List.set_cons_zero, List.set_cons_succ]
  refine anyT_takeL (i := 4) (v := ?vo4) rfl (by kernel_rfl) (by kernel_rfl) (by kernel_rfl) (by kernel_rfl) (by kernel_rfl) (fun _ _ _ h => h) (Or.inl ⟨by rfl, fun wS hSw => ?hyo4⟩) hS ?reo4
  case hyo4 => (dsimp only at hSw; obtain hS1 := hSw; go_simp; try with_reducible rfl)
  try simp only [Act.put, List.setIfInBounds_toArray, List.set_cons_zero, List.set_cons_succ]
  refine anyT_takeL (i := 5) (v := ?vo5) rfl (by kernel_rfl) (by kernel_rfl) (by kernel_rfl) (by kernel_rfl) (by kernel_rfl) (fun _ _ _ h => h) (Or.inl ⟨by rfl, fun wS hSw => ?hyo5⟩) hS ?reo5
  case hyo5 => (dsimp only at hSw; obtain hS1 := hSw; go_simp; try with_reducible rfl)
  try simp only [Act.put, List.setIfInBounds_toArray, List.set_cons_zero, List.set_cons_succ]
  refine anyT_takeL (i := 6) (v := ?vo6) rfl (by kernel_rfl) (by kernel_rfl) (by kernel_rfl) (by kernel_rfl) (by kernel_rfl) (fun _ _ _ h => h) (Or.inl ⟨by rfl, fun wS hSw => ?hyo6⟩) hS ?reo6
  case hyo6 => (dsimp only at hSw; obtain hS1 := hSw; go_simp; try with_reducible rfl)
  try simp only [Act.put, List.setIfInBounds_toArray, List.set_cons_zero, List.set_cons_succ]
  refine anyT_takeL (i := 7) (v := ?vo7) rfl (by kernel_rfl) (by kernel_rfl) (by kernel_rfl) (by kernel_rfl) (by kernel_rfl) (fun _ _ _ h => h) (Or.inl ⟨by rfl, fun wS hSw => ?hyo7⟩) hS ?reo7
  case hyo7 => (dsimp only at hSw; obtain hS1 := hSw; go_simp; try with_reducible rfl)
  try simp only [Act.put, List.setIfInBounds_toArray, List.set_cons_zero, List.set_cons_succ]
  refine anyT_oneL (i := 8) rfl (by kernel_rfl) ?_
  intro K hK
  go_simp
  try dsimp only
  refine hK _ _ (.inl rfl) ?_
  clear hK K hS
  try simp only [Act.put, List.setIfInBounds_toArray, List.set_cons_zero, List.set_cons_succ]
  refine anyT_done (by kernel_rfl) ?_ _
  try clear hS
  -- END
  refine (fun (HH : ∀ U : World, Hid (RaftAt o kr kl U b r.stand ∧ Ext [kr] o o w U) → Exit.then _ _ _ _ U) => HH _ ⟨HG1.out.1, hE0.trans HG1.out.2.undrew⟩) ?_
  intro U HU
  clear HG1 q1 q9 f0 hlt0 HV0 hE0
  have HFS : Hid (r.stand.Fits) := HF.out.stand htt
  obtain ⟨hRU, hEU⟩ := HU.out
  have HWU : Hid (Wf o U) := fun b hb => hw b (Nat.le_trans hEU.size hb)
  go_wp2_with fail
  refine (elected41 o kr kl b r.stand _ hRU HFS.out HWU.out hk hkl hl0).mono ?_
  rintro e w1 ⟨o1, rfl, hR1, hE1⟩
  by_cases hel : r.stand.elected.1 = true
  · have HEL := Lib.hid hel
    clear hel
    rw [HEL.out]
    go_wp2
    go_returns
    have hwant : r.want = r.stand.elected.2 := by
      unfold RaftM.want
      rw [if_neg (by simpa using hne), if_pos HEL.out]
    exact ⟨⟨_, rfl⟩, o1, by rw [hwant]; exact hR1, (hEU.mono (by simp)).trans hE1⟩
  · have hel : r.stand.elected.1 = false := by simpa using hel
    have HEL := Lib.hid hel
    clear hel
    rw [HEL.out]
    have hwant : r.want = r.stand.askEach r.log.last.1 r.log.last.2 r.log.members := by
      unfold RaftM.want
      rw [if_neg (by simpa using hne), if_neg (by rw [HEL.out]; simp)]
    have HWANT := Lib.hid hwant
    have hee : r.stand.elected.2 = r.stand := by
      have h1 := HEL.out
      unfold RaftM.elected at h1 ⊢
      split
      · rename_i hm; rw [if_pos hm] at h1; cases h1
      · rfl
    rw [hee] at hR1
    have HR1 := Lib.hid hR1
    have HE1 := Lib.hid hE1
    have HEU := Lib.hid hEU
    have HW1 : Hid (Wf o1 w1) := hE1.wf HWU.out
    obtain ⟨lb1, As1, ns1, cs1, Ao1, no1, co1, ⟨d0, d1, d2, d3, d4, d5, d6, d7, d8, d27, f1, hlt1⟩, _, hL1, _⟩ := hR1.open_
    have HL1 : Hid (LogAt o1 kl w1 lb1 r.log) := hL1
    clear hwant hee hR1 hE1 hEU hRU HU hL1 d0 d1 d2 d3 d5 d6 d7 d8 d27
    go_wp2_with fail
    refine (last28 o1 kl lb1 r.log _ HL1.out HF.out.ok.log.len).mono ?_
    rintro e w2 ⟨rfl, hb2⟩
    have k4 : w2.cell? ⟨b, 4, none⟩ = some (.pointer (some ⟨lb1, 0, none⟩)) := (hb2.cell (p := ⟨b, 4, none⟩) hlt1).trans d4
    have HL2 := Lib.hid (HL1.out.below hb2)
    have HB2 := Lib.hid hb2
    have hlt2 : b < w2.heap.size := Nat.lt_of_lt_of_le hlt1 hb2.size
    clear hb2 d4
    go_wp2_with fail
    refine (members17 o1 kl lb1 r.log _ HL2.out HF.out.ok.log).mono ?_
    rintro e w3 ⟨A3, n3, c3, rfl, hI, hb3⟩
    have HB3 := Lib.hid (HB2.out.trans (hb3.mono HB2.out.size))
    have hn := hI.len.1
    have HN := Lib.hid hn
    have hn5 : n3 ≤ 5 := by have := HF.out.ok.mlen; omega
    have HI := Lib.hid (IntsAt.stays hI (Stays.weak (B' := Of o1 0) _ fun b hb => HW1.out b (Nat.le_trans HB2.out.size hb)))
    have HR3 := Lib.hid (HR1.out.below HB3.out HW1.out)
    have HW3 : Hid (Wf o1 w3) := fun b hb => HW1.out b (Nat.le_trans HB3.out.size hb)
    generalize r.log.last.1 = la at *
    generalize r.log.last.2 = lt at *
    clear hn hI hb3 k4
    go_wp2
    go_loopw [62] (fun i wr => ∃ k : Nat, k ≤ n3 ∧ i = .int .i64 k ∧ Hid (∃ o', RaftAt o' kr kl wr b (r.stand.askEach la lt (r.log.members.take k)) ∧ Ext [kr] o1 o' w3 wr)) (fun i _ => n3 - (intOf i).toNat)
    case atStart => exact ⟨0, Nat.zero_le _, rfl, o1, by simpa [RaftM.askEach] using HR3.out, Ext.refl _ _ _⟩
    case round =>
      obtain ⟨k, hk', rfl, HRR⟩ := hrel
      obtain ⟨o', hR', he'⟩ := HRR.out
      have hid : (r.stand.askEach la lt (r.log.members.take k)).id = r.id := by rw [askEach_eq]; rfl
      have HR' := Lib.hid hR'
      have HE' := Lib.hid he'
      obtain ⟨lb', As', ns', cs', Ao', no', co', ⟨d0, d1, d2, d3, d4, d5, d6, d7, d8, d27, f', hlt'⟩, _⟩ := hR'.open_
      rw [hid] at d1
      clear hR' he' hid d0 d2 d3 d4 d5 d6 d7 d8 d27 HRR
      by_cases hltk : k < n3
      · obtain ⟨x, hx⟩ : ∃ x, r.log.members[k]? = some x := ⟨_, List.getElem?_eq_getElem (by have := HN.out; omega)⟩
        obtain ⟨g, off, rfl, hg, k0⟩ := IntsAt.at? (IntsAt.stays HI.out (HE'.out.stays (by simpa using hk.symm))) hx
        have HT : Hid (r.log.members.take (k + 1) = r.log.members.take k ++ [x]) := by
          obtain ⟨hk2, hxe⟩ := List.getElem?_eq_some_iff.1 hx
          unfold Hid
          rw [List.take_succ_eq_append_getElem hk2, hxe]
        clear hx
        by_cases hxi : x = r.id
        · have hxi' : (x != r.id) = false := by simpa using hxi
          have HX := Lib.hid hxi
          clear hxi
          go_wp2
          go_roundw
          case rel => exact ⟨k + 1, by omega, by go_num, o', by rw [HT.out, askEach_snoc, if_neg (by rw [HX.out]; simp [RaftM.stand])]; exact HR'.out, HE'.out⟩
          case measure => simp [intOf]; omega
        · have hxi' : (x != r.id) = true := by simpa using hxi
          have HX := Lib.hid hxi
          clear hxi
          have hlen' : (r.stand.askEach la lt (r.log.members.take k)).out.length ≤ 50000 := by
            have := askEach_len r.stand la lt (r.log.members.take k)
            have := HN.out
            have := HF.out.out
            have h2 : r.stand.out.length = r.out.length := rfl
            have h3 := List.length_take_le k r.log.members
            omega
          go_wp2_with fail
          refine (send59 o' kr kl b _ { kind := 1, to_ := x, index := la, logTerm := lt } 0 0 0 none 0 0 none 0 0 none 0 0 _ HR'.out (HE'.out.wf HW3.out) hk hkl hlen' SliceOf.nil_ SliceOf.nil_ SliceOf.nil_).mono ?_
          rintro e w4 ⟨⟨v4, rfl⟩, o4, h4, he4⟩
          go_wp2
          go_roundw
          case rel => exact ⟨k + 1, by omega, by go_num, o4, by rw [HT.out, askEach_snoc, if_pos (by exact HX.out)]; exact h4, HE'.out.trans he4⟩
          case measure => simp [intOf]; omega
      · obtain rfl : k = n3 := by omega
        have HE : Hid (r.log.members.take k = r.log.members) := List.take_of_length_le (by rw [← HN.out]; exact Nat.le_refl _)
        go_wp2
        go_returns
        exact ⟨⟨_, rfl⟩, o', by rw [HWANT.out, ← HE.out]; exact HR'.out, (((HEU.out.mono (by simp)).trans HE1.out).trans (Ext.of_below HB3.out HW1.out)).trans (HE'.out.mono (by simp))⟩
end Go.Proofs.Ytibkmhacpodceaa

/- Walks: Tick. -/
namespace Go.Proofs.Ytibkmhacpodceaa
open Go.RowKit

/-- what is handed out, and what is left -/
def OutIs (o : Own) (kr kl : Nat) (b : Nat) (r : RaftM) (w : World) (v : Value) (w' : World) : Prop :=
  ∃ o' A n, v = .slice A n n ∧ SliceOf 12 (MsgR (Of o' 0) w') (Of o' kr) w' (.slice A n n) r.out ∧ RaftAt o' kr kl w' b { r with out := [] } ∧ Ext [kr, kl] o o' w w'
def TickIs (o : Own) (kr kl : Nat) (b : Nat) (r : RaftM) (w : World) (e : Ending) (w' : World) : Prop := ∃ v, e = .returned v ∧ OutIs o kr kl b r w v w'

theorem OutIs.of_take {o o1 : Own} {kr kl b : Nat} {r : RaftM} {w w1 w' : World} {e : Ending} (h : TakeIs o1 kr kl b r w1 e w') (he : Ext [kr, kl] o o1 w w1) : ∃ v, e = .returned v ∧ OutIs o kr kl b r w v w' := by
  obtain ⟨A, n, rfl, h1, h2, h3⟩ := h
  exact ⟨_, rfl, o1, A, n, rfl, h1, h2, he.trans (h3.mono (by simp))⟩

set_option maxHeartbeats 4000000 in
theorem tick10 (o : Own) (kr kl : Nat) (b : Nat) (r : RaftM) (wait : Int) (w : World) (h : RaftAt o kr kl w b r) (hf : r.Fits) (htt : r.term < 10000) (hee : r.elapsed < 10000) (hw : Wf o w) (hk : kr ≠ 0) (hkl : kr ≠ kl) (hl0 : kl ≠ 0) :
    Calls Try.prog 10 #[.pointer (some ⟨b, 0, none⟩), .int .i64 wait] w (TickIs o kr kl b (r.tick wait) w) := by
  have H := Lib.hid h
  have HF := Lib.hid hf
  obtain ⟨lb, As, ns, cs, Ao, no, co, ⟨c0, c1, c2, c3, c4, c5, c6, c7, c8, c27, f, hlt⟩, ho, hL, hs, _, h6, h7, hB⟩ := h.open_
  have H67 := Lib.hid (And.intro h6 h7)
  have he0 := hf.ok.e0
  clear h hf hL hs h6 h7 hB
  by_cases hrole : r.role = 3
  · have hr' : (r.role == 3) = true := by simpa using hrole
    have htick : r.tick wait = r.sendAll := by unfold RaftM.tick; rw [if_pos hrole]
    have HT := Lib.hid htick
    clear htick hrole
    go_enter Try.func10, Try.ntmps10
    go_wp2_with fail
    refine (sendAll33 o kr kl b r _ H.out HF.out.ok hw hk hkl (by have := HF.out.out; omega)).mono ?_
    rintro e w1 ⟨⟨v1, rfl⟩, o1, hR1, hE1⟩
    have HR1 := Lib.hid hR1
    have HE1 := Lib.hid hE1
    clear hR1 hE1
    go_wp2_with fail
    refine (take34 o1 kr kl b _ _ HR1.out hk hkl).mono ?_
    rintro e w2 ht
    obtain ⟨v, rfl, A, n, hv⟩ := OutIs.of_take ht (HE1.out.mono (by simp))
    have HV := Lib.hid hv
    clear hv ht
    go_wp2
    go_ret
    exact ⟨_, rfl, by rw [HT.out]; exact ⟨A, n, HV.out⟩⟩
  · have hr' : (r.role == 3) = false := by simpa using hrole
    have HROLE := Lib.hid hrole
    clear hrole
    go_enter Try.func10, Try.ntmps10
    go_wp2
    have g1 := H.out.field hk hkl (r' := { r with elapsed := r.elapsed + 1 }) 8 (.int .i64 (r.elapsed + 1)) (fun _ _ _ => rfl) rfl rfl rfl H67.out.1 H67.out.2
    refine (fun (HH : ∀ V : World, Hid (RaftAt o kr kl V b { r with elapsed := r.elapsed + 1 } ∧ Ext [kr] o o w V) → Code.wp Try.prog _ _ _ V) => HH _ g1) ?_
    intro V HV0
    clear g1
    obtain ⟨hR0, hE0⟩ := HV0.out
    obtain ⟨lb0, As0, ns0, cs0, Ao0, no0, co0, ⟨d0, d1, d2, d3, d4, d5, d6, d7, d8, d27, f0, hlt0⟩, _, hL0, _⟩ := hR0.open_
    have HL0 : Hid (LogAt o kl V lb0 r.log) := hL0
    have q1 : V.cell? ⟨b, 1, none⟩ = some (.int .i64 r.id) := d1
    have q4 : V.cell? ⟨b, 4, none⟩ = some (.pointer (some ⟨lb0, 0, none⟩)) := d4
    have q8 : V.cell? ⟨b, 8, none⟩ = some (.int .i64 (r.elapsed + 1)) := d8
    have HW0 : Hid (Wf o V) := fun b hb => hw b (Nat.le_trans hE0.size hb)
    have HR0 := Lib.hid hR0
    have HE0 := Lib.hid hE0
    clear d0 d1 d2 d3 d4 d5 d6 d7 d8 d27 c0 c1 c2 c3 c4 c5 c6 c7 c8 c27 f hR0 hE0 hL0 HV0
    by_cases hwt : wait ≤ r.elapsed + 1
    · have hwt' : decide (wait ≤ r.elapsed + 1) = true := by simpa using hwt
      have HWT := Lib.hid hwt
      clear hwt
      by_cases hme : r.id ∈ r.log.members
      · have HME := Lib.hid hme
        clear hme
        -- BLOCK yes
        have hS : (fun w' : World => w'.cell? ⟨b, 1, none⟩ = some (.int .i64 r.id) ∧ w'.cell? ⟨b, 4, none⟩ = some (.pointer (some ⟨lb0, 0, none⟩)) ∧ w'.cell? ⟨b, 8, none⟩ = some (.int .i64 (r.elapsed + 1))) V.drew := ⟨q1, q4, q8⟩
        refine wp_region_T 17 (fun w' : World => w'.cell? ⟨b, 1, none⟩ = some (.int .i64 r.id) ∧ w'.cell? ⟨b, 4, none⟩ = some (.pointer (some ⟨lb0, 0, none⟩)) ∧ w'.cell? ⟨b, 8, none⟩ = some (.int .i64 (r.elapsed + 1))) (by kernel_rfl) ?_
        refine anyT_takeL (i := 0) (v := ?vy0) rfl (by kernel_rfl) (by kernel_rfl) (by kernel_rfl) (by kernel_rfl) (by kernel_rfl) (fun _ _ _ h => h) (Or.inl ⟨by rfl, fun wS hSw => ?hyy0⟩) hS ?rey0
        case hyy0 => (dsimp only at hSw; obtain ⟨hS1, hS2, hS3⟩ := hSw; go_simp; try with_reducible rfl)
        try simp only [Act.put, List.setIfInBounds_toArray, List.set_cons_zero, List.set_cons_succ]
        refine anyT_takeL (i := 1) (v := ?vy1) rfl (by kernel_rfl) (by kernel_rfl) (by kernel_rfl) (by kernel_rfl) (by kernel_rfl) (fun _ _ _ h => h) (Or.inl ⟨by rfl, fun wS hSw => ?hyy1⟩) hS ?rey1
        case hyy1 => (dsimp only at hSw; obtain ⟨hS1, hS2, hS3⟩ := hSw; go_simp; try with_reducible rfl)
        try simp only [Act.put, List.setIfInBounds_toArray, List.set_cons_zero, List.set_cons_succ]
        refine anyT_takeL (i := 2) (v := ?vy2) rfl (by kernel_rfl) (by kernel_rfl) (by kernel_rfl) (by kernel_rfl) (by kernel_rfl) (fun _ _ _ h => h) (Or.inl ⟨by rfl, fun wS hSw => ?hyy2⟩) hS ?rey2
        case hyy2 => (dsimp only at hSw; obtain ⟨hS1, hS2, hS3⟩ := hSw; go_simp; try with_reducible rfl)
        try simp only [Act.put, List.setIfInBounds_toArray, List.set_cons_zero, List.set_cons_succ]
        refine anyT_takeL (i := 3) (v := ?vy3) rfl (by kernel_rfl) (by kernel_rfl) (by kernel_rfl) (by kernel_rfl) (by kernel_rfl) (fun _ _ _ h => h) (Or.inl ⟨by rfl, fun wS hSw => ?hyy3⟩) hS ?rey3
        case hyy3 => (dsimp only at hSw; obtain ⟨hS1, hS2, hS3⟩ := hSw; go_simp; try with_reducible rfl)
        try simp only [Act.put, List.setIfInBounds_toArray, List.set_cons_zero, List.set_cons_succ]
        refine anyT_takeL (i := 4) (v := ?vy4) rfl (by kernel_rfl) (by kernel_rfl) (by kernel_rfl) (by kernel_rfl) (by kernel_rfl) (fun _ _ _ h => h) (Or.inl ⟨by rfl, fun wS hSw => ?hyy4⟩) hS ?rey4
        case hyy4 => (dsimp only at hSw; obtain ⟨hS1, hS2, hS3⟩ := hSw; go_simp; try with_reducible rfl)
        try simp only [Act.put, List.setIfInBounds_toArray, List.set_cons_zero, List.set_cons_succ]
        refine anyT_takeL (i := 5) (v := ?vy5) rfl (by kernel_rfl) (by kernel_rfl) (by kernel_rfl) (by kernel_rfl) (by kernel_rfl) (fun _ _ _ h => h) (Or.inl ⟨by rfl, fun wS hSw => ?hyy5⟩) hS ?rey5
        case hyy5 => (dsimp only at hSw; obtain ⟨hS1, hS2, hS3⟩ := hSw; go_simp; try with_reducible rfl)
        try simp only [Act.put, List.setIfInBounds_toArray, List.set_cons_zero, List.set_cons_succ]
        refine anyT_takeL (i := 6) (v := ?vy6) rfl (by kernel_rfl) (by kernel_rfl) (by kernel_rfl) (by kernel_rfl) (by kernel_rfl) (fun _ _ _ h => h) (Or.inl ⟨by rfl, fun wS hSw => ?hyy6⟩) hS ?rey6
        case hyy6 => (dsimp only at hSw; obtain ⟨hS1, hS2, hS3⟩ := hSw; go_simp; try with_reducible rfl)
        try simp only [Act.put, List.setIfInBounds_toArray, List.set_cons_zero, List.set_cons_succ]
        refine anyT_takeL (i := 7) (v := ?vy7) rfl (by kernel_rfl) (by kernel_rfl) (by kernel_rfl) (by kernel_rfl) (by kernel_rfl) (fun _ _ _ h => h) (Or.inl ⟨by rfl, fun wS hSw => ?hyy7⟩) hS ?rey7
        case hyy7 => (dsimp only at hSw; obtain ⟨hS1, hS2, hS3⟩ := hSw; go_simp; try with_reducible rfl)
        try simp only [Act.put, List.setIfInBounds_toArray, List.set_cons_zero, List.set_cons_succ]
        refine anyT_takeL (i := 8) (v := ?vy8) rfl (by kernel_rfl) (by kernel_rfl) (by kernel_rfl) (by kernel_rfl) (by kernel_rfl) (fun _ _ _ h => h) (Or.inl ⟨by rfl, fun wS hSw => ?hyy8⟩) hS ?rey8
        case hyy8 => (dsimp only at hSw; obtain ⟨hS1, hS2, hS3⟩ := hSw; go_simp; try with_reducible rfl)
        try simp only [Act.put, List.setIfInBounds_toArray, List.set_cons_zero, List.set_cons_succ]
        refine anyT_takeL (i := 9) (v := ?vy9) rfl (by kernel_rfl) (by kernel_rfl) (by kernel_rfl) (by kernel_rfl) (by kernel_rfl) (fun _ _ _ h => h) (Or.inl ⟨by rfl, fun wS hSw => ?hyy9⟩) hS ?rey9
        case hyy9 => (dsimp only at hSw; obtain ⟨hS1, hS2, hS3⟩ := hSw; go_simp; try with_reducible rfl)
        try simp only [Act.put, List.setIfInBounds_toArray, List.set_cons_zero, List.set_cons_succ]
        refine anyT_takeL (i := 10) (v := ?vy10) rfl (by kernel_rfl) (by kernel_rfl) (by kernel_rfl) (by kernel_rfl) (by kernel_rfl) (fun _ _ _ h => h) (Or.inl ⟨by rfl, fun wS hSw => ?hyy10⟩) hS ?rey10
        case hyy10 => (dsimp only at hSw; obtain ⟨hS1, hS2, hS3⟩ := hSw; go_simp; try with_reducible rfl)
        try simp only [Act.put, List.setIfInBounds_toArray, List.set_cons_zero, List.set_cons_succ]
        refine anyT_takeL (i := 12) (v := ?vy12) rfl (by kernel_rfl) (by kernel_rfl) (by kernel_rfl) (by kernel_rfl) (by kernel_rfl) (fun _ _ _ h => h) (Or.inl ⟨by rfl, fun wS hSw => ?hyy12⟩) hS ?rey12
        case hyy12 => (dsimp only at hSw; obtain ⟨hS1, hS2, hS3⟩ := hSw; go_simp; try with_reducible rfl)
        try simp only [Act.put, List.setIfInBounds_toArray, List.set_cons_zero, List.set_cons_succ]
        refine anyT_takeL (i := 13) (v := ?vy13) rfl (by kernel_rfl) (by kernel_rfl) (by kernel_rfl) (by kernel_rfl) (by kernel_rfl) (fun _ _ _ h => h) (Or.inl ⟨by rfl, fun wS hSw => ?hyy13⟩) hS ?rey13
        case hyy13 => (dsimp only at hSw; obtain ⟨hS1, hS2, hS3⟩ := hSw; go_simp; try with_reducible rfl)
        try simp only [Act.put, List.setIfInBounds_toArray, List.set_cons_zero, List.set_cons_succ]
        refine anyT_takeL (i := 14) (v := ?vy14) rfl (by kernel_rfl) (by kernel_rfl) (by kernel_rfl) (by kernel_rfl) (by kernel_rfl) (fun _ _ _ h => h) (Or.inl ⟨by rfl, fun wS hSw => ?hyy14⟩) hS ?rey14
        case hyy14 => (dsimp only at hSw; obtain ⟨hS1, hS2, hS3⟩ := hSw; go_simp; try with_reducible rfl)
        try simp only [Act.put, List.setIfInBounds_toArray, List.set_cons_zero, List.set_cons_succ]
        refine anyT_takeL (i := 15) (v := ?vy15) rfl (by kernel_rfl) (by kernel_rfl) (by kernel_rfl) (by kernel_rfl) (by kernel_rfl) (fun _ _ _ h => h) (Or.inl ⟨by rfl, fun wS hSw => ?hyy15⟩) hS ?rey15
        case hyy15 => (dsimp only at hSw; obtain ⟨hS1, hS2, hS3⟩ := hSw; go_simp; try with_reducible rfl)
        try simp only [Act.put, List.setIfInBounds_toArray, List.set_cons_zero, List.set_cons_succ]
        refine anyT_oneL (i := 11) rfl (by kernel_rfl) ?_
        intro K hK
        go_simp
        refine (members17 o kl lb0 r.log _ (show LogAt o kl V.drew lb0 r.log from HL0.out) HF.out.ok.log).mono ?_
        rintro e w6 ⟨A6, n6, c6, rfl, hI6, hb6⟩
        have hb6' : Below V.heap.size V w6 := ⟨hb6.os, hb6.tape, hb6.output, hb6.size, hb6.block⟩
        have y1 := (hb6'.cell (p := ⟨b, 1, none⟩) hlt0).trans q1
        have y2 := (hb6'.cell (p := ⟨b, 4, none⟩) hlt0).trans q4
        have y3 := (hb6'.cell (p := ⟨b, 8, none⟩) hlt0).trans q8
        have HI6 := Lib.hid hI6
        have HB6 := Lib.hid hb6'
        clear hI6 hb6 hb6'
        try dsimp only
        clear hS
        have hS : (fun w' : World => w'.cell? ⟨b, 1, none⟩ = some (.int .i64 r.id) ∧ w'.cell? ⟨b, 4, none⟩ = some (.pointer (some ⟨lb0, 0, none⟩)) ∧ w'.cell? ⟨b, 8, none⟩ = some (.int .i64 (r.elapsed + 1))) w6 := ⟨y1, y2, y3⟩
        refine hK _ _ (.inr hS) ?_
        clear hK K
        try simp only [Act.put, List.setIfInBounds_toArray, List.set_cons_zero, List.set_cons_succ]
        refine anyT_oneL (i := 16) rfl (by kernel_rfl) ?_
        intro K hK
        go_simp
        refine (contains35 _ r.log.members r.id _ _ HI6.out (by have := HF.out.ok.mlen; omega)).mono ?_
        rintro e w7 ⟨he7, hx7⟩
        rw [decide_eq_true HME.out] at he7
        subst he7
        obtain rfl := hx7.symm
        clear hx7
        try dsimp only
        clear hS
        have hS : (fun w' : World => w'.cell? ⟨b, 1, none⟩ = some (.int .i64 r.id) ∧ w'.cell? ⟨b, 4, none⟩ = some (.pointer (some ⟨lb0, 0, none⟩)) ∧ w'.cell? ⟨b, 8, none⟩ = some (.int .i64 (r.elapsed + 1))) w6 := ⟨y1, y2, y3⟩
        refine hK _ _ (.inr hS) ?_
        clear hK K
        try simp only [Act.put, List.setIfInBounds_toArray, List.set_cons_zero, List.set_cons_succ]
        refine anyT_oneL (i := 17) rfl (by kernel_rfl) ?_
        intro K hK
        go_simp
        try dsimp only
        refine hK _ _ (.inl rfl) ?_
        clear hK K hS
        try simp only [Act.put, List.setIfInBounds_toArray, List.set_cons_zero, List.set_cons_succ]
        refine anyT_done (by kernel_rfl) ?_ _
        try clear hS
        -- END
        have HFT : Hid (({ r with elapsed := r.elapsed + 1 } : RaftM).Fits) := ⟨⟨HF.out.ok.log, HF.out.ok.id0, HF.out.ok.id1, HF.out.ok.t0, HF.out.ok.t1, HF.out.ok.mem, HF.out.ok.mlen, HF.out.ok.next0, HF.out.ok.next1, HF.out.ok.match0, HF.out.ok.match1, HF.out.ok.state, by show 0 ≤ r.elapsed + 1; omega, by show r.elapsed + 1 ≤ 20000; omega⟩, HF.out.t, HF.out.i, HF.out.out, by show r.elapsed + 1 ≤ 10000; omega⟩
        have HR6 := Lib.hid (HR0.out.below HB6.out HW0.out)
        have HW6 : Hid (Wf o w6) := fun b hb => HW0.out b (Nat.le_trans HB6.out.size hb)
        go_wp2_with fail
        refine (want36 o kr kl b _ _ HR6.out HFT.out htt HW6.out hk hkl hl0).mono ?_
        rintro e w7 ⟨⟨v7, rfl⟩, o7, hR7, hE7⟩
        have HR7 := Lib.hid hR7
        have HE7 := Lib.hid hE7
        clear hR7 hE7
        go_wp2_with fail
        refine (take34 o7 kr kl b _ _ HR7.out hk hkl).mono ?_
        rintro e w2 ht
        obtain ⟨v, rfl, A, n, hv⟩ := OutIs.of_take ht (((HE0.out.mono (by simp)).trans (Ext.of_below HB6.out HW0.out)).trans HE7.out)
        have HV := Lib.hid hv
        clear hv ht
        go_wp2
        go_ret
        have htick : r.tick wait = ({ r with elapsed := r.elapsed + 1 } : RaftM).want := by unfold RaftM.tick; rw [if_neg HROLE.out, if_pos ⟨HWT.out, HME.out⟩]
        exact ⟨_, rfl, by rw [htick]; exact ⟨A, n, HV.out⟩⟩
      · have HME := Lib.hid hme
        clear hme
        -- BLOCK no
        have hS : (fun w' : World => w'.cell? ⟨b, 1, none⟩ = some (.int .i64 r.id) ∧ w'.cell? ⟨b, 4, none⟩ = some (.pointer (some ⟨lb0, 0, none⟩)) ∧ w'.cell? ⟨b, 8, none⟩ = some (.int .i64 (r.elapsed + 1))) V.drew := ⟨q1, q4, q8⟩
        refine wp_region_T 17 (fun w' : World => w'.cell? ⟨b, 1, none⟩ = some (.int .i64 r.id) ∧ w'.cell? ⟨b, 4, none⟩ = some (.pointer (some ⟨lb0, 0, none⟩)) ∧ w'.cell? ⟨b, 8, none⟩ = some (.int .i64 (r.elapsed + 1))) (by kernel_rfl) ?_
        refine anyT_takeL (i := 0) (v := ?vn0) rfl (by kernel_rfl) (by kernel_rfl) (by kernel_rfl) (by kernel_rfl) (by kernel_rfl) (fun _ _ _ h => h) (Or.inl ⟨by rfl, fun wS hSw => ?hyn0⟩) hS ?ren0
        case hyn0 => (dsimp only at hSw; obtain ⟨hS1, hS2, hS3⟩ := hSw; go_simp; try with_reducible rfl)
        try simp only [Act.put, List.setIfInBounds_toArray, List.set_cons_zero, List.set_cons_succ]
        refine anyT_takeL (i := 1) (v := ?vn1) rfl (by kernel_rfl) (by kernel_rfl) (by kernel_rfl) (by kernel_rfl) (by kernel_rfl) (fun _ _ _ h => h) (Or.inl ⟨by rfl, fun wS hSw => ?hyn1⟩) hS ?ren1
        case hyn1 => (dsimp only at hSw; obtain ⟨hS1, hS2, hS3⟩ := hSw; go_simp; try with_reducible rfl)
        try simp only [Act.put, List.setIfInBounds_toArray, List.set_cons_zero, List.set_cons_succ]
        refine anyT_takeL (i := 2) (v := ?vn2) rfl (by kernel_rfl) (by kernel_rfl) (by kernel_rfl) (by kernel_rfl) (by kernel_rfl) (fun _ _ _ h => h) (Or.inl ⟨by rfl, fun wS hSw => ?hyn2⟩) hS ?ren2
        case hyn2 => (dsimp only at hSw; obtain ⟨hS1, hS2, hS3⟩ := hSw; go_simp; try with_reducible rfl)
        try simp only [Act.put, List.setIfInBounds_toArray, List.set_cons_zero, List.set_cons_succ]
        refine anyT_takeL (i := 3) (v := ?vn3) rfl (by kernel_rfl) (by kernel_rfl) (by kernel_rfl) (by kernel_rfl) (by kernel_rfl) (fun _ _ _ h => h) (Or.inl ⟨by rfl, fun wS hSw => ?hyn3⟩) hS ?ren3
        case hyn3 => (dsimp only at hSw; obtain ⟨hS1, hS2, hS3⟩ := hSw; go_simp; try with_reducible rfl)
        try simp only [Act.put, List.setIfInBounds_toArray, List.set_cons_zero, List.set_cons_succ]
        refine anyT_takeL (i := 4) (v := ?vn4) rfl (by kernel_rfl) (by kernel_rfl) (by kernel_rfl) (by kernel_rfl) (by kernel_rfl) (fun _ _ _ h => h) (Or.inl ⟨by rfl, fun wS hSw => ?hyn4⟩) hS ?ren4
        case hyn4 => (dsimp only at hSw; obtain ⟨hS1, hS2, hS3⟩ := hSw; go_simp; try with_reducible rfl)
        try simp only [Act.put, List.setIfInBounds_toArray, List.set_cons_zero, List.set_cons_succ]
        refine anyT_takeL (i := 5) (v := ?vn5) rfl (by kernel_rfl) (by kernel_rfl) (by kernel_rfl) (by kernel_rfl) (by kernel_rfl) (fun _ _ _ h => h) (Or.inl ⟨by rfl, fun wS hSw => ?hyn5⟩) hS ?ren5
        case hyn5 => (dsimp only at hSw; obtain ⟨hS1, hS2, hS3⟩ := hSw; go_simp; try with_reducible rfl)
        try simp only [Act.put, List.setIfInBounds_toArray, List.set_cons_zero, List.set_cons_succ]
        refine anyT_takeL (i := 6) (v := ?vn6) rfl (by kernel_rfl) (by kernel_rfl) (by kernel_rfl) (by kernel_rfl) (by kernel_rfl) (fun _ _ _ h => h) (Or.inl ⟨by rfl, fun wS hSw => ?hyn6⟩) hS ?ren6
        case hyn6 => (dsimp only at hSw; obtain ⟨hS1, hS2, hS3⟩ := hSw; go_simp; try with_reducible rfl)
        try simp only [Act.put, List.setIfInBounds_toArray, List.set_cons_zero, List.set_cons_succ]
        refine anyT_takeL (i := 7) (v := ?vn7) rfl (by kernel_rfl) (by kernel_rfl) (by kernel_rfl) (by kernel_rfl) (by kernel_rfl) (fun _ _ _ h => h) (Or.inl ⟨by rfl, fun wS hSw => ?hyn7⟩) hS ?ren7
        case hyn7 => (dsimp only at hSw; obtain ⟨hS1, hS2, hS3⟩ := hSw; go_simp; try with_reducible rfl)
        try simp only [Act.put, List.setIfInBounds_toArray, List.set_cons_zero, List.set_cons_succ]
        refine anyT_takeL (i := 8) (v := ?vn8) rfl (by kernel_rfl) (by kernel_rfl) (by kernel_rfl) (by kernel_rfl) (by kernel_rfl) (fun _ _ _ h => h) (Or.inl ⟨by rfl, fun wS hSw => ?hyn8⟩) hS ?ren8
        case hyn8 => (dsimp only at hSw; obtain ⟨hS1, hS2, hS3⟩ := hSw; go_simp; try with_reducible rfl)
        try simp only [Act.put, List.setIfInBounds_toArray, List.set_cons_zero, List.set_cons_succ]
        refine anyT_takeL (i := 9) (v := ?vn9) rfl (by kernel_rfl) (by kernel_rfl) (by kernel_rfl) (by kernel_rfl) (by kernel_rfl) (fun _ _ _ h => h) (Or.inl ⟨by rfl, fun wS hSw => ?hyn9⟩) hS ?ren9
        case hyn9 => (dsimp only at hSw; obtain ⟨hS1, hS2, hS3⟩ := hSw; go_simp; try with_reducible rfl)
        try simp only [Act.put, List.setIfInBounds_toArray, List.set_cons_zero, List.set_cons_succ]
        refine anyT_takeL (i := 10) (v := ?vn10) rfl (by kernel_rfl) (by kernel_rfl) (by kernel_rfl) (by kernel_rfl) (by kernel_rfl) (fun _ _ _ h => h) (Or.inl ⟨by rfl, fun wS hSw => ?hyn10⟩) hS ?ren10
        case hyn10 => (dsimp only at hSw; obtain ⟨hS1, hS2, hS3⟩ := hSw; go_simp; try with_reducible rfl)
        try simp only [Act.put, List.setIfInBounds_toArray, List.set_cons_zero, List.set_cons_succ]
        refine anyT_takeL (i := 12) (v := ?vn12) rfl (by kernel_rfl) (by kernel_rfl) (by kernel_rfl) (by kernel_rfl) (by kernel_rfl) (fun _ _ _ h => h) (Or.inl ⟨by rfl, fun wS hSw => ?hyn12⟩) hS ?ren12
        case hyn12 => (dsimp only at hSw; obtain ⟨hS1, hS2, hS3⟩ := hSw; go_simp; try with_reducible rfl)
        try simp only [Act.put, List.setIfInBounds_toArray, List.set_cons_zero, List.set_cons_succ]
        refine anyT_takeL (i := 13) (v := ?vn13) rfl (by kernel_rfl) (by kernel_rfl) (by kernel_rfl) (by kernel_rfl) (by kernel_rfl) (fun _ _ _ h => h) (Or.inl ⟨by rfl, fun wS hSw => ?hyn13⟩) hS ?ren13
        case hyn13 => (dsimp only at hSw; obtain ⟨hS1, hS2, hS3⟩ := hSw; go_simp; try with_reducible rfl)
        try simp only [Act.put, List.setIfInBounds_toArray, List.set_cons_zero, List.set_cons_succ]
        refine anyT_takeL (i := 14) (v := ?vn14) rfl (by kernel_rfl) (by kernel_rfl) (by kernel_rfl) (by kernel_rfl) (by kernel_rfl) (fun _ _ _ h => h) (Or.inl ⟨by rfl, fun wS hSw => ?hyn14⟩) hS ?ren14
        case hyn14 => (dsimp only at hSw; obtain ⟨hS1, hS2, hS3⟩ := hSw; go_simp; try with_reducible rfl)
        try simp only [Act.put, List.setIfInBounds_toArray, List.set_cons_zero, List.set_cons_succ]
        refine anyT_takeL (i := 15) (v := ?vn15) rfl (by kernel_rfl) (by kernel_rfl) (by kernel_rfl) (by kernel_rfl) (by kernel_rfl) (fun _ _ _ h => h) (Or.inl ⟨by rfl, fun wS hSw => ?hyn15⟩) hS ?ren15
        case hyn15 => (dsimp only at hSw; obtain ⟨hS1, hS2, hS3⟩ := hSw; go_simp; try with_reducible rfl)
        try simp only [Act.put, List.setIfInBounds_toArray, List.set_cons_zero, List.set_cons_succ]
        refine anyT_oneL (i := 11) rfl (by kernel_rfl) ?_
        intro K hK
        go_simp
        refine (members17 o kl lb0 r.log _ (show LogAt o kl V.drew lb0 r.log from HL0.out) HF.out.ok.log).mono ?_
        rintro e w6 ⟨A6, n6, c6, rfl, hI6, hb6⟩
        have hb6' : Below V.heap.size V w6 := ⟨hb6.os, hb6.tape, hb6.output, hb6.size, hb6.block⟩
        have y1 := (hb6'.cell (p := ⟨b, 1, none⟩) hlt0).trans q1
        have y2 := (hb6'.cell (p := ⟨b, 4, none⟩) hlt0).trans q4
        have y3 := (hb6'.cell (p := ⟨b, 8, none⟩) hlt0).trans q8
        have HI6 := Lib.hid hI6
        have HB6 := Lib.hid hb6'
        clear hI6 hb6 hb6'
        try dsimp only
        clear hS
        have hS : (fun w' : World => w'.cell? ⟨b, 1, none⟩ = some (.int .i64 r.id) ∧ w'.cell? ⟨b, 4, none⟩ = some (.pointer (some ⟨lb0, 0, none⟩)) ∧ w'.cell? ⟨b, 8, none⟩ = some (.int .i64 (r.elapsed + 1))) w6 := ⟨y1, y2, y3⟩
        refine hK _ _ (.inr hS) ?_
        clear hK K
        try simp only [Act.put, List.setIfInBounds_toArray, List.set_cons_zero, List.set_cons_succ]
        refine anyT_oneL (i := 16) rfl (by kernel_rfl) ?_
        intro K hK
        go_simp
        refine (contains35 _ r.log.members r.id _ _ HI6.out (by have := HF.out.ok.mlen; omega)).mono ?_
        rintro e w7 ⟨he7, hx7⟩
        rw [decide_eq_false HME.out] at he7
        subst he7
        obtain rfl := hx7.symm
        clear hx7
        try dsimp only
        clear hS
        have hS : (fun w' : World => w'.cell? ⟨b, 1, none⟩ = some (.int .i64 r.id) ∧ w'.cell? ⟨b, 4, none⟩ = some (.pointer (some ⟨lb0, 0, none⟩)) ∧ w'.cell? ⟨b, 8, none⟩ = some (.int .i64 (r.elapsed + 1))) w6 := ⟨y1, y2, y3⟩
        refine hK _ _ (.inr hS) ?_
        clear hK K
        try simp only [Act.put, List.setIfInBounds_toArray, List.set_cons_zero, List.set_cons_succ]
        refine anyT_oneL (i := 17) rfl (by kernel_rfl) ?_
        intro K hK
        go_simp
        try dsimp only
        refine hK _ _ (.inl rfl) ?_
        clear hK K hS
        try simp only [Act.put, List.setIfInBounds_toArray, List.set_cons_zero, List.set_cons_succ]
        refine anyT_done (by kernel_rfl) ?_ _
        try clear hS
        -- END
        have HR6 := Lib.hid (HR0.out.below HB6.out HW0.out)
        go_wp2_with fail
        refine (take34 o kr kl b _ _ HR6.out hk hkl).mono ?_
        rintro e w2 ht
        obtain ⟨v, rfl, A, n, hv⟩ := OutIs.of_take ht ((HE0.out.mono (S' := [kr, kl]) (by simp)).trans (Ext.of_below HB6.out HW0.out))
        have HV := Lib.hid hv
        clear hv ht
        go_wp2
        go_ret
        have htick : r.tick wait = { r with elapsed := r.elapsed + 1 } := by unfold RaftM.tick; rw [if_neg HROLE.out, if_neg (fun h => HME.out h.2)]
        exact ⟨_, rfl, by rw [htick]; exact ⟨A, n, HV.out⟩⟩
    · have hwt' : decide (wait ≤ r.elapsed + 1) = false := by simpa using hwt
      have HWT := Lib.hid hwt
      clear hwt
      -- BLOCK short
      have hS : (fun w' : World => w'.cell? ⟨b, 1, none⟩ = some (.int .i64 r.id) ∧ w'.cell? ⟨b, 4, none⟩ = some (.pointer (some ⟨lb0, 0, none⟩)) ∧ w'.cell? ⟨b, 8, none⟩ = some (.int .i64 (r.elapsed + 1))) V.drew := ⟨q1, q4, q8⟩
      refine wp_region_T 17 (fun w' : World => w'.cell? ⟨b, 1, none⟩ = some (.int .i64 r.id) ∧ w'.cell? ⟨b, 4, none⟩ = some (.pointer (some ⟨lb0, 0, none⟩)) ∧ w'.cell? ⟨b, 8, none⟩ = some (.int .i64 (r.elapsed + 1))) (by kernel_rfl) ?_
      refine anyT_takeL (i := 0) (v := ?vs0) rfl (by kernel_rfl) (by kernel_rfl) (by kernel_rfl) (by kernel_rfl) (by kernel_rfl) (fun _ _ _ h => h) (Or.inl ⟨by rfl, fun wS hSw => ?hys0⟩) hS ?res0
      case hys0 => (dsimp only at hSw; obtain ⟨hS1, hS2, hS3⟩ := hSw; go_simp; try with_reducible rfl)
      try simp only [Act.put, List.setIfInBounds_toArray, List.set_cons_zero, List.set_cons_succ]
      refine anyT_takeL (i := 1) (v := ?vs1) rfl (by kernel_rfl) (by kernel_rfl) (by kernel_rfl) (by kernel_rfl) (by kernel_rfl) (fun _ _ _ h => h) (Or.inl ⟨by rfl, fun wS hSw => ?hys1⟩) hS ?res1
      case hys1 => (dsimp only at hSw; obtain ⟨hS1, hS2, hS3⟩ := hSw; go_simp; try with_reducible rfl)
      try simp only [Act.put, List.setIfInBounds_toArray, List.set_cons_zero, List.set_cons_succ]
      refine anyT_takeL (i := 2) (v := ?vs2) rfl (by kernel_rfl) (by kernel_rfl) (by kernel_rfl) (by kernel_rfl) (by kernel_rfl) (fun _ _ _ h => h) (Or.inl ⟨by rfl, fun wS hSw => ?hys2⟩) hS ?res2
      case hys2 => (dsimp only at hSw; obtain ⟨hS1, hS2, hS3⟩ := hSw; go_simp; try with_reducible rfl)
      try simp only [Act.put, List.setIfInBounds_toArray, List.set_cons_zero, List.set_cons_succ]
      refine anyT_takeL (i := 3) (v := ?vs3) rfl (by kernel_rfl) (by kernel_rfl) (by kernel_rfl) (by kernel_rfl) (by kernel_rfl) (fun _ _ _ h => h) (Or.inl ⟨by rfl, fun wS hSw => ?hys3⟩) hS ?res3
      case hys3 => (dsimp only at hSw; obtain ⟨hS1, hS2, hS3⟩ := hSw; go_simp; try with_reducible rfl)
      try simp only [Act.put, List.setIfInBounds_toArray, List.set_cons_zero, List.set_cons_succ]
      refine anyT_takeL (i := 4) (v := ?vs4) rfl (by kernel_rfl) (by kernel_rfl) (by kernel_rfl) (by kernel_rfl) (by kernel_rfl) (fun _ _ _ h => h) (Or.inl ⟨by rfl, fun wS hSw => ?hys4⟩) hS ?res4
      case hys4 => (dsimp only at hSw; obtain ⟨hS1, hS2, hS3⟩ := hSw; go_simp; try with_reducible rfl)
      try simp only [Act.put, List.setIfInBounds_toArray, List.set_cons_zero, List.set_cons_succ]
      refine anyT_takeL (i := 5) (v := ?vs5) rfl (by kernel_rfl) (by kernel_rfl) (by kernel_rfl) (by kernel_rfl) (by kernel_rfl) (fun _ _ _ h => h) (Or.inl ⟨by rfl, fun wS hSw => ?hys5⟩) hS ?res5
      case hys5 => (dsimp only at hSw; obtain ⟨hS1, hS2, hS3⟩ := hSw; go_simp; try with_reducible rfl)
      try simp only [Act.put, List.setIfInBounds_toArray, List.set_cons_zero, List.set_cons_succ]
      refine anyT_takeL (i := 6) (v := ?vs6) rfl (by kernel_rfl) (by kernel_rfl) (by kernel_rfl) (by kernel_rfl) (by kernel_rfl) (fun _ _ _ h => h) (Or.inl ⟨by rfl, fun wS hSw => ?hys6⟩) hS ?res6
      case hys6 => (dsimp only at hSw; obtain ⟨hS1, hS2, hS3⟩ := hSw; go_simp; try with_reducible rfl)
      try simp only [Act.put, List.setIfInBounds_toArray, List.set_cons_zero, List.set_cons_succ]
      refine anyT_takeL (i := 7) (v := undef) rfl (by kernel_rfl) (by kernel_rfl) (by kernel_rfl) (by kernel_rfl) (by kernel_rfl) (fun _ _ _ h => h) (Or.inr ⟨by rfl, rfl⟩) hS ?res7
      try simp only [Act.put, List.setIfInBounds_toArray, List.set_cons_zero, List.set_cons_succ]
      refine anyT_takeL (i := 8) (v := undef) rfl (by kernel_rfl) (by kernel_rfl) (by kernel_rfl) (by kernel_rfl) (by kernel_rfl) (fun _ _ _ h => h) (Or.inr ⟨by rfl, rfl⟩) hS ?res8
      try simp only [Act.put, List.setIfInBounds_toArray, List.set_cons_zero, List.set_cons_succ]
      refine anyT_takeL (i := 9) (v := undef) rfl (by kernel_rfl) (by kernel_rfl) (by kernel_rfl) (by kernel_rfl) (by kernel_rfl) (fun _ _ _ h => h) (Or.inr ⟨by rfl, rfl⟩) hS ?res9
      try simp only [Act.put, List.setIfInBounds_toArray, List.set_cons_zero, List.set_cons_succ]
      refine anyT_takeL (i := 10) (v := undef) rfl (by kernel_rfl) (by kernel_rfl) (by kernel_rfl) (by kernel_rfl) (by kernel_rfl) (fun _ _ _ h => h) (Or.inr ⟨by rfl, rfl⟩) hS ?res10
      try simp only [Act.put, List.setIfInBounds_toArray, List.set_cons_zero, List.set_cons_succ]
      refine anyT_takeL (i := 11) (v := undef) rfl (by kernel_rfl) (by kernel_rfl) (by kernel_rfl) (by kernel_rfl) (by kernel_rfl) (fun _ _ _ h => h) (Or.inr ⟨by rfl, rfl⟩) hS ?res11
      try simp only [Act.put, List.setIfInBounds_toArray, List.set_cons_zero, List.set_cons_succ]
      refine anyT_takeL (i := 12) (v := undef) rfl (by kernel_rfl) (by kernel_rfl) (by kernel_rfl) (by kernel_rfl) (by kernel_rfl) (fun _ _ _ h => h) (Or.inr ⟨by rfl, rfl⟩) hS ?res12
      try simp only [Act.put, List.setIfInBounds_toArray, List.set_cons_zero, List.set_cons_succ]
      refine anyT_takeL (i := 13) (v := undef) rfl (by kernel_rfl) (by kernel_rfl) (by kernel_rfl) (by kernel_rfl) (by kernel_rfl) (fun _ _ _ h => h) (Or.inr ⟨by rfl, rfl⟩) hS ?res13
      try simp only [Act.put, List.setIfInBounds_toArray, List.set_cons_zero, List.set_cons_succ]
      refine anyT_takeL (i := 14) (v := undef) rfl (by kernel_rfl) (by kernel_rfl) (by kernel_rfl) (by kernel_rfl) (by kernel_rfl) (fun _ _ _ h => h) (Or.inr ⟨by rfl, rfl⟩) hS ?res14
      try simp only [Act.put, List.setIfInBounds_toArray, List.set_cons_zero, List.set_cons_succ]
      refine anyT_takeL (i := 15) (v := undef) rfl (by kernel_rfl) (by kernel_rfl) (by kernel_rfl) (by kernel_rfl) (by kernel_rfl) (fun _ _ _ h => h) (Or.inr ⟨by rfl, rfl⟩) hS ?res15
      try simp only [Act.put, List.setIfInBounds_toArray, List.set_cons_zero, List.set_cons_succ]
      refine anyT_takeL (i := 16) (v := undef) rfl (by kernel_rfl) (by kernel_rfl) (by kernel_rfl) (by kernel_rfl) (by kernel_rfl) (fun _ _ _ h => h) (Or.inr ⟨by rfl, rfl⟩) hS ?res16
      try simp only [Act.put, List.setIfInBounds_toArray, List.set_cons_zero, List.set_cons_succ]
      refine anyT_oneL (i := 17) rfl (by kernel_rfl) ?_
      intro K hK
      go_simp
      try dsimp only
      refine hK _ _ (.inl rfl) ?_
      clear hK K hS
      try simp only [Act.put, List.setIfInBounds_toArray, List.set_cons_zero, List.set_cons_succ]
      refine anyT_done (by kernel_rfl) ?_ _
      try clear hS
      -- END
      go_wp2_with fail
      refine (take34 o kr kl b _ _ HR0.out.drew hk hkl).mono ?_
      rintro e w2 ht
      obtain ⟨v, rfl, A, n, hv⟩ := OutIs.of_take ht (HE0.out.mono (S' := [kr, kl]) (by simp)).drew
      have HV := Lib.hid hv
      clear hv ht
      go_wp2
      go_ret
      have htick : r.tick wait = { r with elapsed := r.elapsed + 1 } := by unfold RaftM.tick; rw [if_neg HROLE.out, if_neg (fun h => by have := HWT.out; have := h.1; omega)]
      exact ⟨_, rfl, by rw [htick]; exact ⟨A, n, HV.out⟩⟩
end Go.Proofs.Ytibkmhacpodceaa

/- Walks: add, Propose. -/
namespace Go.Proofs.Ytibkmhacpodceaa
open Go.RowKit

/-- a call that hands out an index, messages and an error -/
def ProposeIs (o : Own) (kr kl : Nat) (b : Nat) (q : Int × Int × RaftM) (w : World) (e : Ending) (w' : World) : Prop :=
  ∃ v, e = .returned (.tuple #[.int .i64 q.1, v, .int .i64 q.2.1]) ∧ OutIs o kr kl b q.2.2 w v w'

theorem OutIs.none_ {o o' : Own} {kr kl b : Nat} {r : RaftM} {w w' : World} (hR : RaftAt o' kr kl w' b r) (hE : Ext [kr, kl] o o' w w') (hout : r.out = []) : OutIs o kr kl b r w (.slice none 0 0) w' := by
  refine ⟨o', none, 0, rfl, by rw [hout]; exact SliceOf.nil_, ?_, hE⟩
  have : ({ r with out := [] } : RaftM) = r := by rw [← hout]
  rw [this]; exact hR

set_option maxHeartbeats 4000000 in
theorem add45 (o : Own) (kr kl : Nat) (b : Nat) (r : RaftM) (kind : Int) (data : List Int) (A0 : Option Addr) (n0 c0' : Nat) (B : Nat → Prop) (w : World) (h : RaftAt o kr kl w b r) (hf : r.Fits) (hk0 : 1 ≤ kind) (hk3 : kind ≤ 3) (hd : data.length ≤ 100) (hD : BytesAt B w (.slice A0 n0 c0') data) (hout : r.out = []) (hw : Wf o w) (hk : kr ≠ 0) (hkl : kr ≠ kl) (hl0 : kl ≠ 0) :
    Calls Try.prog 45 #[.pointer (some ⟨b, 0, none⟩), .int .i64 kind, .slice A0 n0 c0'] w (ProposeIs o kr kl b (r.addM kind data) w) := by
  have H := Lib.hid h
  have HF := Lib.hid hf
  have HD := Lib.hid hD
  have HOUT := Lib.hid hout
  obtain ⟨lb, As, ns, cs, Ao, no, co, ⟨c0, c1, c2, c3, c4, c5, c6, c7, c8, c27, f, hlt⟩, ho, hL, hs, _, h6, h7, hB⟩ := h.open_
  have HL := Lib.hid hL
  have hkk0 : 0 ≤ kind := by omega
  clear h hf hL hs h6 h7 hB hD hout c0 c1 c3 c5 c6 c7 c8 c27
  have hadd : r.addM kind data = if (r.log.add r.term kind data).2.1 ≠ 0 then (0, (r.log.add r.term kind data).2.1, { r with log := (r.log.add r.term kind data).2.2 }) else ((r.log.add r.term kind data).1, 0, ({ r with log := (r.log.add r.term kind data).2.2 } : RaftM).commitM.2.sendAll) := rfl
  have HADD := Lib.hid hadd
  have HOK7 : Hid (({ r with log := (r.log.add r.term kind data).2.2 } : RaftM).Ok) := HF.out.ok.add (by have := HF.out.i; omega) hkk0 hk3 hd
  clear hadd
  go_enter Try.func45, Try.ntmps45
  go_wp2
  -- BLOCK add
  have hS : (fun w' : World => w'.cell? ⟨b, 4, none⟩ = some (.pointer (some ⟨lb, 0, none⟩)) ∧ w'.cell? ⟨b, 2, none⟩ = some (.int .i64 r.term)) w.drew := ⟨c4, c2⟩
  refine wp_region_T 15 (fun w' : World => w'.cell? ⟨b, 4, none⟩ = some (.pointer (some ⟨lb, 0, none⟩)) ∧ w'.cell? ⟨b, 2, none⟩ = some (.int .i64 r.term)) (by kernel_rfl) ?_
  refine anyT_takeL (i := 0) (v := ?va0) rfl (by kernel_rfl) (by kernel_rfl) (by kernel_rfl) (by kernel_rfl) (by kernel_rfl) (fun _ _ _ h => h) (Or.inl ⟨by rfl, fun wS hSw => ?hya0⟩) hS ?rea0
  case hya0 => (dsimp only at hSw; obtain ⟨hS1, hS2⟩ := hSw; go_simp; try with_reducible rfl)
  try simp only [Act.put, List.setIfInBounds_toArray, List.set_cons_zero, List.set_cons_succ]
  refine anyT_takeL (i := 1) (v := ?va1) rfl (by kernel_rfl) (by kernel_rfl) (by kernel_rfl) (by kernel_rfl) (by kernel_rfl) (fun _ _ _ h => h) (Or.inl ⟨by rfl, fun wS hSw => ?hya1⟩) hS ?rea1
  case hya1 => (dsimp only at hSw; obtain ⟨hS1, hS2⟩ := hSw; go_simp; try with_reducible rfl)
  try simp only [Act.put, List.setIfInBounds_toArray, List.set_cons_zero, List.set_cons_succ]
  refine anyT_takeL (i := 2) (v := ?va2) rfl (by kernel_rfl) (by kernel_rfl) (by kernel_rfl) (by kernel_rfl) (by kernel_rfl) (fun _ _ _ h => h) (Or.inl ⟨by rfl, fun wS hSw => ?hya2⟩) hS ?rea2
  case hya2 => (dsimp only at hSw; obtain ⟨hS1, hS2⟩ := hSw; go_simp; try with_reducible rfl)
  try simp only [Act.put, List.setIfInBounds_toArray, List.set_cons_zero, List.set_cons_succ]
  refine anyT_takeL (i := 3) (v := ?va3) rfl (by kernel_rfl) (by kernel_rfl) (by kernel_rfl) (by kernel_rfl) (by kernel_rfl) (fun _ _ _ h => h) (Or.inl ⟨by rfl, fun wS hSw => ?hya3⟩) hS ?rea3
  case hya3 => (dsimp only at hSw; obtain ⟨hS1, hS2⟩ := hSw; go_simp; try with_reducible rfl)
  try simp only [Act.put, List.setIfInBounds_toArray, List.set_cons_zero, List.set_cons_succ]
  refine anyT_takeL (i := 4) (v := ?va4) rfl (by kernel_rfl) (by kernel_rfl) (by kernel_rfl) (by kernel_rfl) (by kernel_rfl) (fun _ _ _ h => h) (Or.inl ⟨by rfl, fun wS hSw => ?hya4⟩) hS ?rea4
  case hya4 => (dsimp only at hSw; obtain ⟨hS1, hS2⟩ := hSw; go_simp; try with_reducible rfl)
  try simp only [Act.put, List.setIfInBounds_toArray, List.set_cons_zero, List.set_cons_succ]
  refine anyT_takeL (i := 5) (v := ?va5) rfl (by kernel_rfl) (by kernel_rfl) (by kernel_rfl) (by kernel_rfl) (by kernel_rfl) (fun _ _ _ h => h) (Or.inl ⟨by rfl, fun wS hSw => ?hya5⟩) hS ?rea5
  case hya5 => (dsimp only at hSw; obtain ⟨hS1, hS2⟩ := hSw; go_simp; try with_reducible rfl)
  try simp only [Act.put, List.setIfInBounds_toArray, List.set_cons_zero, List.set_cons_succ]
  refine anyT_takeL (i := 6) (v := ?va6) rfl (by kernel_rfl) (by kernel_rfl) (by kernel_rfl) (by kernel_rfl) (by kernel_rfl) (fun _ _ _ h => h) (Or.inl ⟨by rfl, fun wS hSw => ?hya6⟩) hS ?rea6
  case hya6 => (dsimp only at hSw; obtain ⟨hS1, hS2⟩ := hSw; go_simp; try with_reducible rfl)
  try simp only [Act.put, List.setIfInBounds_toArray, List.set_cons_zero, List.set_cons_succ]
  refine anyT_takeL (i := 7) (v := ?va7) rfl (by kernel_rfl) (by kernel_rfl) (by kernel_rfl) (by kernel_rfl) (by kernel_rfl) (fun _ _ _ h => h) (Or.inl ⟨by rfl, fun wS hSw => ?hya7⟩) hS ?rea7
  case hya7 => (dsimp only at hSw; obtain ⟨hS1, hS2⟩ := hSw; go_simp; try with_reducible rfl)
  try simp only [Act.put, List.setIfInBounds_toArray, List.set_cons_zero, List.set_cons_succ]
  refine anyT_takeL (i := 8) (v := ?va8) rfl (by kernel_rfl) (by kernel_rfl) (by kernel_rfl) (by kernel_rfl) (by kernel_rfl) (fun _ _ _ h => h) (Or.inl ⟨by rfl, fun wS hSw => ?hya8⟩) hS ?rea8
  case hya8 => (dsimp only at hSw; obtain ⟨hS1, hS2⟩ := hSw; go_simp; try with_reducible rfl)
  try simp only [Act.put, List.setIfInBounds_toArray, List.set_cons_zero, List.set_cons_succ]
  refine anyT_takeL (i := 9) (v := ?va9) rfl (by kernel_rfl) (by kernel_rfl) (by kernel_rfl) (by kernel_rfl) (by kernel_rfl) (fun _ _ _ h => h) (Or.inl ⟨by rfl, fun wS hSw => ?hya9⟩) hS ?rea9
  case hya9 => (dsimp only at hSw; obtain ⟨hS1, hS2⟩ := hSw; go_simp; try with_reducible rfl)
  try simp only [Act.put, List.setIfInBounds_toArray, List.set_cons_zero, List.set_cons_succ]
  refine anyT_oneL (i := 10) rfl (by kernel_rfl) ?_
  intro K hK
  go_simp
  refine (add69 o kl lb r.log r.term kind data A0 n0 c0' B _ (show LogAt o kl w.drew lb r.log from HL.out) HF.out.ok.log (show Wf o w.drew from hw) hl0 (BytesAt.stays HD.out (Stays.refl _ w).drew) (by omega)).mono ?_
  rintro e w3 ⟨o1, rfl, hL3, he3⟩
  have HE7 := Lib.hid he3.undrew
  have HR7 := Lib.hid (H.out.putLog c4 hkl hl0 HE7.out hL3)
  have HW7 : Hid (Wf o1 w3) := HE7.out.wf hw
  have z4 : w3.cell? ⟨b, 4, none⟩ = some (.pointer (some ⟨lb, 0, none⟩)) := (HE7.out.cell (p := ⟨b, 4, none⟩) hlt (by show o b ∉ [kl]; rw [ho]; simpa using hkl)).trans c4
  have z2 : w3.cell? ⟨b, 2, none⟩ = some (.int .i64 r.term) := (HE7.out.cell (p := ⟨b, 2, none⟩) hlt (by show o b ∉ [kl]; rw [ho]; simpa using hkl)).trans c2
  clear hL3 he3
  try dsimp only
  clear hS
  have hS : (fun w' : World => w'.cell? ⟨b, 4, none⟩ = some (.pointer (some ⟨lb, 0, none⟩)) ∧ w'.cell? ⟨b, 2, none⟩ = some (.int .i64 r.term)) w3 := ⟨z4, z2⟩
  refine hK _ _ (.inr hS) ?_
  clear hK K
  try simp only [Act.put, List.setIfInBounds_toArray, List.set_cons_zero, List.set_cons_succ]
  refine anyT_takeL (i := 11) (v := ?va11) rfl (by kernel_rfl) (by kernel_rfl) (by kernel_rfl) (by kernel_rfl) (by kernel_rfl) (fun _ _ _ h => h) (Or.inl ⟨by rfl, fun wS hSw => ?hya11⟩) hS ?rea11
  case hya11 => (dsimp only at hSw; obtain ⟨hS1, hS2⟩ := hSw; go_simp; try with_reducible rfl)
  try simp only [Act.put, List.setIfInBounds_toArray, List.set_cons_zero, List.set_cons_succ]
  refine anyT_takeL (i := 12) (v := ?va12) rfl (by kernel_rfl) (by kernel_rfl) (by kernel_rfl) (by kernel_rfl) (by kernel_rfl) (fun _ _ _ h => h) (Or.inl ⟨by rfl, fun wS hSw => ?hya12⟩) hS ?rea12
  case hya12 => (dsimp only at hSw; obtain ⟨hS1, hS2⟩ := hSw; go_simp; try with_reducible rfl)
  try simp only [Act.put, List.setIfInBounds_toArray, List.set_cons_zero, List.set_cons_succ]
  refine anyT_takeL (i := 13) (v := ?va13) rfl (by kernel_rfl) (by kernel_rfl) (by kernel_rfl) (by kernel_rfl) (by kernel_rfl) (fun _ _ _ h => h) (Or.inl ⟨by rfl, fun wS hSw => ?hya13⟩) hS ?rea13
  case hya13 => (dsimp only at hSw; obtain ⟨hS1, hS2⟩ := hSw; go_simp; try with_reducible rfl)
  try simp only [Act.put, List.setIfInBounds_toArray, List.set_cons_zero, List.set_cons_succ]
  refine anyT_takeL (i := 14) (v := ?va14) rfl (by kernel_rfl) (by kernel_rfl) (by kernel_rfl) (by kernel_rfl) (by kernel_rfl) (fun _ _ _ h => h) (Or.inl ⟨by rfl, fun wS hSw => ?hya14⟩) hS ?rea14
  case hya14 => (dsimp only at hSw; obtain ⟨hS1, hS2⟩ := hSw; go_simp; try with_reducible rfl)
  try simp only [Act.put, List.setIfInBounds_toArray, List.set_cons_zero, List.set_cons_succ]
  refine anyT_oneL (i := 15) rfl (by kernel_rfl) ?_
  intro K hK
  go_simp
  try dsimp only
  refine hK _ _ (.inl rfl) ?_
  clear hK K hS
  try simp only [Act.put, List.setIfInBounds_toArray, List.set_cons_zero, List.set_cons_succ]
  refine anyT_done (by kernel_rfl) ?_ _
  try clear hS
  -- END
  generalize hq : r.log.add r.term kind data = q at *
  obtain ⟨i, er, L⟩ := q
  clear hq
  by_cases her : er = 0
  · have her' : (er != 0) = false := by simpa using her
    have HER := Lib.hid her
    clear her
    go_wp2_with fail
    refine (commit70 o1 kr kl b _ _ HR7.out HOK7.out HW7.out hk hkl hl0).mono ?_
    rintro e w4 ⟨o2, rfl, hR4, he4⟩
    have HR4 := Lib.hid hR4
    have HE4 := Lib.hid he4
    clear hR4 he4
    go_wp2_with fail
    refine (sendAll33 o2 kr kl b _ _ HR4.out HOK7.out.commitM (HE4.out.wf HW7.out) hk hkl (by rw [commitM_out]; show r.out.length ≤ 40000; rw [HOUT.out]; simp)).mono ?_
    rintro e w5 ⟨⟨v5, rfl⟩, o3, hR5, he5⟩
    have HR5 := Lib.hid hR5
    have HE5 := Lib.hid he5
    clear hR5 he5
    go_wp2_with fail
    refine (take34 o3 kr kl b _ _ HR5.out hk hkl).mono ?_
    rintro e w6 ht
    obtain ⟨v, rfl, A, n, hv⟩ := OutIs.of_take (o := o) (kr := kr) (kl := kl) (w := w) ht ((HE7.out.mono (by simp)).trans (HE4.out.trans (HE5.out.mono (by simp))))
    have HV := Lib.hid hv
    clear hv ht
    go_wp2
    go_returns
    refine ⟨v, by rw [HADD.out, if_neg (by simpa using HER.out)]; rfl, ?_⟩
    rw [HADD.out, if_neg (by simpa using HER.out)]
    exact ⟨A, n, HV.out⟩
  · have her' : (er != 0) = true := by simpa using her
    have HER := Lib.hid her
    clear her
    go_wp2
    go_returns
    refine ⟨.slice none 0 0, by rw [HADD.out, if_pos HER.out]; rfl, ?_⟩
    rw [HADD.out, if_pos HER.out]
    exact OutIs.none_ HR7.out (HE7.out.mono (by simp)) HOUT.out

set_option maxHeartbeats 2000000 in
theorem propose13 (o : Own) (kr kl : Nat) (b : Nat) (r : RaftM) (data : List Int) (A0 : Option Addr) (n0 c0' : Nat) (B : Nat → Prop) (w : World) (h : RaftAt o kr kl w b r) (hf : r.Fits) (hd : data.length ≤ 100) (hD : BytesAt B w (.slice A0 n0 c0') data) (hout : r.out = []) (hw : Wf o w) (hk : kr ≠ 0) (hkl : kr ≠ kl) (hl0 : kl ≠ 0) :
    Calls Try.prog 13 #[.pointer (some ⟨b, 0, none⟩), .slice A0 n0 c0'] w (ProposeIs o kr kl b (r.propose data) w) := by
  have H := Lib.hid h
  obtain ⟨lb, As, ns, cs, Ao, no, co, ⟨c0, c1, c2, c3, c4, c5, c6, c7, c8, c27, f, hlt⟩, _⟩ := h.open_
  clear h c0 c1 c2 c3 c4 c5 c7 c8 c27
  by_cases hrole : r.role = 3
  · have hr' : (r.role != 3) = false := by simpa using hrole
    have hpr : r.propose data = r.addM 2 data := by unfold RaftM.propose; rw [if_neg (by simpa using hrole)]
    have HP := Lib.hid hpr
    clear hpr hrole
    go_enter Try.func13, Try.ntmps13
    go_wp2_with fail
    refine (add45 o kr kl b r 2 data A0 n0 c0' B _ H.out hf (by omega) (by omega) hd hD hout hw hk hkl hl0).mono ?_
    rintro e w1 ⟨v, rfl, hv⟩
    have HV := Lib.hid hv
    clear hv
    go_wp2
    go_returns
    exact ⟨v, by rw [HP.out]; rfl, by rw [HP.out]; exact HV.out⟩
  · have hr' : (r.role != 3) = true := by simpa using hrole
    have hpr : r.propose data = (0, 110, r) := by unfold RaftM.propose; rw [if_pos hrole]
    have HP := Lib.hid hpr
    have HOUT := Lib.hid hout
    clear hpr hrole hout
    go_enter Try.func13, Try.ntmps13
    go_wp2
    go_returns
    exact ⟨.slice none 0 0, by rw [HP.out]; rfl, by rw [HP.out]; exact OutIs.none_ H.out (Ext.refl _ _ _) HOUT.out⟩
end Go.Proofs.Ytibkmhacpodceaa

/- Walks: unlike, Compact. -/
namespace Go.Proofs.Ytibkmhacpodceaa
open Go.RowKit

/-- how many of 1 .. k are in one of the two alone -/
def diffTo (a b : List Int) : Nat → Nat
  | 0 => 0
  | k + 1 => diffTo a b k + if (decide (((k : Int) + 1) ∈ a) != decide (((k : Int) + 1) ∈ b)) = true then 1 else 0
theorem diffTo_five (a b : List Int) : diffTo a b 5 = diff5 a b := by
  unfold diff5
  simp only [diffTo, List.filter_cons, List.filter_nil]
  simp only [show ((0 : Nat) : Int) + 1 = 1 from rfl, show ((1 : Nat) : Int) + 1 = 2 from rfl, show ((2 : Nat) : Int) + 1 = 3 from rfl, show ((3 : Nat) : Int) + 1 = 4 from rfl, show ((4 : Nat) : Int) + 1 = 5 from rfl]
  cases (decide ((1 : Int) ∈ a) != decide ((1 : Int) ∈ b)) <;> cases (decide ((2 : Int) ∈ a) != decide ((2 : Int) ∈ b)) <;> cases (decide ((3 : Int) ∈ a) != decide ((3 : Int) ∈ b)) <;> cases (decide ((4 : Int) ∈ a) != decide ((4 : Int) ∈ b)) <;> cases (decide ((5 : Int) ∈ a) != decide ((5 : Int) ∈ b)) <;> rfl
theorem diffTo_le (a b : List Int) (k : Nat) : diffTo a b k ≤ k := by
  induction k with
  | zero => exact Nat.le_refl _
  | succ k ih => unfold diffTo; split <;> omega

set_option maxHeartbeats 2000000 in
theorem unlike49 (v v2 : Value) (l l2 : List Int) (B B2 : Nat → Prop) (w : World) (h : IntsAt B w v l) (h2 : IntsAt B2 w v2 l2) (hl : l.length ≤ 30000) (hl2 : l2.length ≤ 30000) :
    Calls Try.prog 49 #[v, v2] w fun e w' => e = .returned (.int .i64 (diff5 l l2)) ∧ w' = w := by
  have HI := Lib.hid (And.intro h h2)
  go_enter Try.func49, Try.ntmps49
  go_wp2
  go_loop [6, 5] (fun p n => ∃ k : Nat, k ≤ 5 ∧ p = .int .i64 (k + 1) ∧ n = .int .i64 (diffTo l l2 k)) (fun p _ => 6 - (intOf p).toNat)
  case atStart => exact ⟨0, by omega, rfl, rfl⟩
  case round =>
    obtain ⟨k, hk, rfl, rfl⟩ := hrel
    have hle := diffTo_le l l2 k
    have HD : Hid (diffTo l l2 (k + 1) = diffTo l l2 k + if (decide (((k : Int) + 1) ∈ l) != decide (((k : Int) + 1) ∈ l2)) = true then 1 else 0) := rfl
    generalize hdk : diffTo l l2 k = d at *
    by_cases hlt : k < 5
    · clear hdk
      cases hx1 : decide (((k : Int) + 1) ∈ l) <;> cases hx2 : decide (((k : Int) + 1) ∈ l2)
      all_goals
        rw [hx1, hx2] at HD
        have HX := Lib.hid (And.intro hx1 hx2)
        clear hx1 hx2
        go_wp2_with fail
        refine (contains35 v l ((k : Int) + 1) B _ HI.out.1 hl).mono ?_
        rintro e w' ⟨he, hx⟩
        rw [HX.out.1] at he
        subst he
        obtain rfl := hx.symm
        clear hx
        go_wp2_with fail
        refine (contains35 v2 l2 ((k : Int) + 1) B2 _ HI.out.2 hl2).mono ?_
        rintro e w' ⟨he, hx⟩
        rw [HX.out.2] at he
        subst he
        obtain rfl := hx.symm
        clear hx
        go_wp2
        go_round
        case rel => exact ⟨k + 1, by omega, by go_num, by rw [HD.out]; go_num⟩
        case measure => simp [intOf]; omega
    · obtain rfl : k = 5 := by omega
      go_wp2
      go_ret
      exact ⟨ret_int (by rw [← diffTo_five, hdk]), rfl⟩

/-- the state is another one now -/
theorem RaftAt.putState {o : Own} {kr kl : Nat} {w : World} {b : Nat} {r : RaftM} (h : RaftAt o kr kl w b r) (hk : kr ≠ 0) (hkl : kr ≠ kl) {A : Option Addr} {n c : Nat} {d : List Int} (hd : BytesAt (Of o 0) w (.slice A n c) d) :
    RaftAt o kr kl (w.setCell ⟨b, 5, none⟩ (.slice A n c)) b { r with state := d } ∧ Ext [kr] o o w (w.setCell ⟨b, 5, none⟩ (.slice A n c)) := by
  have hO : Only b w (w.setCell ⟨b, 5, none⟩ (.slice A n c)) := (Only.refl b w).setCell 5 _
  obtain ⟨lb, A1, n1, c1, A2, n2, c2, hb, ho, hL, hs, hr, h6, h7⟩ := h
  have hst0 : Stays (Of o 0) (Of o 0) w (w.setCell ⟨b, 5, none⟩ (.slice A n c)) := hO.stays (by simp [Of, ho, hk])
  have he : Ext [kr] o o w (w.setCell ⟨b, 5, none⟩ (.slice A n c)) := hO.ext (by simp [ho])
  refine ⟨⟨lb, A, n, c, A2, n2, c2, hb.set_ 5 _, ho, ?_, BytesAt.stays hd hst0, hr.far hb (by simp) _ fun _ _ => MsgR.stays hst0, h6, h7⟩, he⟩
  obtain ⟨A', n', c', A2', n2', c2', hb', ho', hm', hr'⟩ := hL
  have hne : lb ≠ b := by rintro rfl; rw [ho] at ho'; exact hkl ho'
  exact ⟨A', n', c', A2', n2', c2', hb'.far hne _, ho', IntsAt.stays hm' hst0, hr'.stays (hO.stays (by simp only [Of]; rw [ho]; exact hkl)) fun _ _ => EntR.stays hst0⟩

def CompactIs (o : Own) (kr kl : Nat) (b : Nat) (r : RaftM) (w : World) (e : Ending) (w' : World) : Prop :=
  (∃ v, e = .returned v) ∧ ∃ o', RaftAt o' kr kl w' b r ∧ Ext [kr, kl] o o' w w'

set_option maxHeartbeats 2000000 in
theorem compact18 (o : Own) (kr kl : Nat) (b : Nat) (r : RaftM) (i : Int) (data : List Int) (A0 : Option Addr) (n0 c0' : Nat) (B : Nat → Prop) (w : World) (h : RaftAt o kr kl w b r) (hf : r.Fits) (hi0 : 0 ≤ i) (hi1 : i ≤ 60000) (hd : data.length ≤ 100) (hD : BytesAt B w (.slice A0 n0 c0') data)
    (hB : ∀ o' w', Ext [kl] o o' w w' → BytesAt B w' (.slice A0 n0 c0') data) (hw : Wf o w) (hk : kr ≠ 0) (hkl : kr ≠ kl) (hl0 : kl ≠ 0) :
    Calls Try.prog 18 #[.pointer (some ⟨b, 0, none⟩), .int .i64 i, .slice A0 n0 c0'] w (CompactIs o kr kl b (r.compact i data) w) := by
  have H := Lib.hid h
  have HF := Lib.hid hf
  have HBB := Lib.hid hB
  have hn0 : n0 ≤ 100 := by have := hD.len.1; omega
  obtain ⟨lb, As, ns, cs, Ao, no, co, ⟨c0, c1, c2, c3, c4, c5, c6, c7, c8, c27, f, hlt⟩, ho, hL, _⟩ := h.open_
  have HL := Lib.hid hL
  have HD := Lib.hid hD
  have hcomp : r.compact i data = if (r.log.cut i).1 ≠ 0 then r else { r with log := (r.log.cut i).2, state := data } := rfl
  have HC := Lib.hid hcomp
  have hcz : (r.log.cut i).1 ≠ 0 → (r.log.cut i).2 = r.log := by
    unfold LogM.cut
    split
    · intro _; rfl
    · intro h; exact absurd rfl h
  have HCZ := Lib.hid hcz
  clear h hf hL hD hB c0 c1 c2 c3 c5 c6 c7 c8 c27 hcomp hcz
  go_enter Try.func18, Try.ntmps18
  go_wp2_with fail
  refine (cut51 o kl lb r.log i _ HL.out HF.out.ok.log hw hl0 hi0 hi1).mono ?_
  rintro e w1 ⟨o1, rfl, hL1, hE1⟩
  have HE1 := Lib.hid hE1
  have HR1 := Lib.hid (H.out.putLog c4 hkl hl0 hE1 hL1)
  have hf1 : ∀ j, w1.frozen? ⟨b, j, none⟩ = false := by
    obtain ⟨_, _, _, _, _, _, _, hx, _⟩ := HR1.out
    exact hx.frozens
  have k5 : ∃ v, w1.cell? ⟨b, 5, none⟩ = some v := by
    obtain ⟨_, _, _, _, _, _, _, hx, _⟩ := HR1.out
    exact ⟨_, hx.cells 5⟩
  obtain ⟨v5, k5⟩ := k5
  have hlt1 : b < w1.heap.size := Nat.lt_of_lt_of_le hlt hE1.size
  clear hL1 hE1 c4 f
  generalize hq : r.log.cut i = q at *
  obtain ⟨er, L⟩ := q
  by_cases her : er = 0
  · have her' : (er != 0) = false := by simpa using her
    have HER := Lib.hid her
    clear her
    go_wp2_with fail
    refine (clone32 _ data B _ (HBB.out _ _ HE1.out) (by omega)).mono ?_
    rintro e w2 ⟨v2, rfl, hB2, hb2⟩
    obtain ⟨A2, c2, rfl, _⟩ := hB2.form
    have hf2 : ∀ j, w2.frozen? ⟨b, j, none⟩ = false := fun j => (hb2.frozen (p := ⟨b, j, none⟩) hlt1).trans (hf1 j)
    have k52 := (hb2.cell (p := ⟨b, 5, none⟩) hlt1).trans k5
    have HW1 : Hid (Wf o1 w1) := HE1.out.wf hw
    have HR2 := Lib.hid (HR1.out.below hb2 HW1.out)
    have HB2 : Hid (BytesAt (Of o1 0) w2 (.slice A2 data.length c2) data) := BytesAt.stays hB2 (Stays.weak _ fun b hb => HW1.out b hb)
    have HEB := Lib.hid hb2
    clear hB2 hb2 hf1 k5
    go_wp2
    go_returns
    have g := HR2.out.putState hk hkl HB2.out
    refine ⟨⟨_, rfl⟩, o1, ?_, ((HE1.out.mono (by simp)).trans (Ext.of_below HEB.out HW1.out)).trans (g.2.mono (by simp))⟩
    rw [HC.out, if_neg (by simpa using HER.out)]
    exact g.1
  · have her' : (er != 0) = true := by simpa using her
    have HER := Lib.hid her
    clear her
    go_wp2
    go_returns
    refine ⟨⟨_, rfl⟩, o1, ?_, HE1.out.mono (by simp)⟩
    rw [HC.out, if_pos HER.out]
    have := HR1.out
    rw [show L = r.log from HCZ.out HER.out] at this
    exact this
end Go.Proofs.Ytibkmhacpodceaa

/- Walks: Change. -/
namespace Go.Proofs.Ytibkmhacpodceaa
open Go.RowKit

theorem membersC_eq (l : List Int) : membersC l = membersB l := by
  unfold membersC membersB
  by_cases h : risingB 0 l = true
  · have := (rising_sub l 0 h).length_le
    have h5 : l.length ≤ 5 := this
    rw [h]
    simp [h5]
  · have h : risingB 0 l = false := by simpa using h
    rw [h]; simp

/-- the numbers as bytes, so far -/
def BytesMade (l : List Int) (k : Nat) (w : World) (v : Value) (wr : World) : Prop := ∃ o, RowOf 1 ByteR 5 o 1 wr v (l.take k) ∧ Ext [1] zeroOwn o w wr

theorem bytes_step {l : List Int} {k : Nat} {w wr : World} {v : Value} {x : Int} (hx : l[k]? = some x) (hl : l.length ≤ 1000) (h0 : 0 ≤ x) (h1 : x < 256) (HI : BytesMade l k w v wr) (ty : TypeId) :
    ∃ v' w', (Builtin.append_ #[46, 46] ty #[v, .slice (some ⟨wr.heap.size, 0, none⟩) 1 1]).run Try.prog (wr.alloc (.cells #[.int .u8 x] 5)) = .ok v' w' ∧ Hid (BytesMade l (k + 1) w v' w') := by
  obtain ⟨o, hr, he⟩ := HI
  obtain ⟨hk, hxe⟩ := List.getElem?_eq_some_iff.1 hx
  have hr1 := hr.stays (R' := ByteR) (((Stays.refl (Of o 1) wr).alloc (.cells #[.int .u8 x] 5))) (fun _ _ h => h)
  have hX : BytesAt Any (wr.alloc (.cells #[.int .u8 x] 5)) (.slice (some ⟨wr.heap.size, 0, none⟩) 1 1) [x] := SliceOf.one (Blk.new wr 5 [.int .u8 x]) trivial rfl ⟨rfl, h0, h1⟩
  obtain ⟨v', w', g1, o', g2, g3, _⟩ := append_bytes (k := 1) ty hr1 hX (by simp only [List.length_take, List.length_singleton]; omega)
  refine ⟨v', w', g1, o', ?_, ((he.alloc _).trans g3)⟩
  rw [List.take_succ_eq_append_getElem hk, hxe]
  exact g2

set_option maxRecDepth 100000 in
set_option maxHeartbeats 4000000 in
theorem change15 (o : Own) (kr kl : Nat) (b : Nat) (r : RaftM) (l : List Int) (A0 : Option Addr) (n0 c0' : Nat) (B : Nat → Prop) (w : World) (h : RaftAt o kr kl w b r) (hf : r.Fits) (hD : IntsAt B w (.slice A0 n0 c0') l) (hll : l.length ≤ 1000) (hout : r.out = []) (hw : Wf o w) (hk : kr ≠ 0) (hkl : kr ≠ kl) (hl0 : kl ≠ 0) :
    Calls Try.prog 15 #[.pointer (some ⟨b, 0, none⟩), .slice A0 n0 c0'] w (ProposeIs o kr kl b (r.change l) w) := by
  have H := Lib.hid h
  have HF := Lib.hid hf
  have HD := Lib.hid hD
  have HOUT := Lib.hid hout
  have hn0 := hD.len.1
  have HN0 := Lib.hid hn0
  have hn1000 : n0 ≤ 1000 := by omega
  obtain ⟨lb, As, ns, cs, Ao, no, co, ⟨c0, c1, c2, c3, c4, c5, c6, c7, c8, c27, f, hlt⟩, ho, hL, _⟩ := h.open_
  have HL := Lib.hid hL
  clear h hf hL hD hout hn0 c0 c1 c3 c5 c7 c8 c27
  by_cases hrole : r.role = 3
  · have hr' : (r.role != 3) = false := by simpa using hrole
    have HROLE := Lib.hid hrole
    clear hrole
    by_cases hmb : membersB l = true
    · have HMB := Lib.hid hmb
      clear hmb
      have hl5 : Hid (l.length ≤ 5 ∧ ∀ q, q ∈ l → 1 ≤ q ∧ q ≤ 5) := ⟨(membersB_bound HMB.out).2, (membersB_bound HMB.out).1⟩
      have hchange : r.change l = if r.log.changing = true ∨ (r.log.termAt r.log.commit).getD 0 ≠ r.term ∨ diff5 l r.log.members ≠ 1 then (0, 111, r) else r.addM 3 l := by
        unfold RaftM.change
        rw [if_neg (by simpa using HROLE.out), if_neg (by rw [HMB.out]; simp)]
      have HCH := Lib.hid hchange
      clear hchange
      have hs0 := HF.out.ok.log.i0
      have hs1 := HF.out.ok.log.i1
      have hel := HF.out.ok.log.len
      have hcc0 := HF.out.ok.log.c0
      have hcc1 := HF.out.ok.log.c1
      go_enter Try.func15, Try.ntmps15
      go_wp2_with fail
      refine (members46 _ l B _ HD.out (by omega)).mono ?_
      rintro e w' ⟨he, hx⟩
      rw [membersC_eq, HMB.out] at he
      subst he
      obtain rfl := hx.symm
      clear hx
      go_wp2
      -- BLOCK term
      have hS : (fun w' : World => w'.cell? ⟨b, 4, none⟩ = some (.pointer (some ⟨lb, 0, none⟩))) w.drew := c4
      refine wp_region_T 14 (fun w' : World => w'.cell? ⟨b, 4, none⟩ = some (.pointer (some ⟨lb, 0, none⟩))) (by kernel_rfl) ?_
      refine anyT_takeL (i := 0) (v := ?vt0) rfl (by kernel_rfl) (by kernel_rfl) (by kernel_rfl) (by kernel_rfl) (by kernel_rfl) (fun _ _ _ h => h) (Or.inl ⟨by rfl, fun wS hSw => ?hyt0⟩) hS ?ret0
      case hyt0 => (dsimp only at hSw; obtain hS1 := hSw; go_simp; try with_reducible rfl)
      try simp only [Act.put, List.setIfInBounds_toArray, List.set_cons_zero, List.set_cons_succ]
      refine anyT_takeL (i := 1) (v := ?vt1) rfl (by kernel_rfl) (by kernel_rfl) (by kernel_rfl) (by kernel_rfl) (by kernel_rfl) (fun _ _ _ h => h) (Or.inl ⟨by rfl, fun wS hSw => ?hyt1⟩) hS ?ret1
      case hyt1 => (dsimp only at hSw; obtain hS1 := hSw; go_simp; try with_reducible rfl)
      try simp only [Act.put, List.setIfInBounds_toArray, List.set_cons_zero, List.set_cons_succ]
      refine anyT_takeL (i := 2) (v := ?vt2) rfl (by kernel_rfl) (by kernel_rfl) (by kernel_rfl) (by kernel_rfl) (by kernel_rfl) (fun _ _ _ h => h) (Or.inl ⟨by rfl, fun wS hSw => ?hyt2⟩) hS ?ret2
      case hyt2 => (dsimp only at hSw; obtain hS1 := hSw; go_simp; try with_reducible rfl)
      try simp only [Act.put, List.setIfInBounds_toArray, List.set_cons_zero, List.set_cons_succ]
      refine anyT_takeL (i := 3) (v := ?vt3) rfl (by kernel_rfl) (by kernel_rfl) (by kernel_rfl) (by kernel_rfl) (by kernel_rfl) (fun _ _ _ h => h) (Or.inl ⟨by rfl, fun wS hSw => ?hyt3⟩) hS ?ret3
      case hyt3 => (dsimp only at hSw; obtain hS1 := hSw; go_simp; try with_reducible rfl)
      try simp only [Act.put, List.setIfInBounds_toArray, List.set_cons_zero, List.set_cons_succ]
      refine anyT_takeL (i := 4) (v := ?vt4) rfl (by kernel_rfl) (by kernel_rfl) (by kernel_rfl) (by kernel_rfl) (by kernel_rfl) (fun _ _ _ h => h) (Or.inl ⟨by rfl, fun wS hSw => ?hyt4⟩) hS ?ret4
      case hyt4 => (dsimp only at hSw; obtain hS1 := hSw; go_simp; try with_reducible rfl)
      try simp only [Act.put, List.setIfInBounds_toArray, List.set_cons_zero, List.set_cons_succ]
      refine anyT_takeL (i := 5) (v := ?vt5) rfl (by kernel_rfl) (by kernel_rfl) (by kernel_rfl) (by kernel_rfl) (by kernel_rfl) (fun _ _ _ h => h) (Or.inl ⟨by rfl, fun wS hSw => ?hyt5⟩) hS ?ret5
      case hyt5 => (dsimp only at hSw; obtain hS1 := hSw; go_simp; try with_reducible rfl)
      try simp only [Act.put, List.setIfInBounds_toArray, List.set_cons_zero, List.set_cons_succ]
      refine anyT_takeL (i := 6) (v := ?vt6) rfl (by kernel_rfl) (by kernel_rfl) (by kernel_rfl) (by kernel_rfl) (by kernel_rfl) (fun _ _ _ h => h) (Or.inl ⟨by rfl, fun wS hSw => ?hyt6⟩) hS ?ret6
      case hyt6 => (dsimp only at hSw; obtain hS1 := hSw; go_simp; try with_reducible rfl)
      try simp only [Act.put, List.setIfInBounds_toArray, List.set_cons_zero, List.set_cons_succ]
      refine anyT_takeL (i := 7) (v := ?vt7) rfl (by kernel_rfl) (by kernel_rfl) (by kernel_rfl) (by kernel_rfl) (by kernel_rfl) (fun _ _ _ h => h) (Or.inl ⟨by rfl, fun wS hSw => ?hyt7⟩) hS ?ret7
      case hyt7 => (dsimp only at hSw; obtain hS1 := hSw; go_simp; try with_reducible rfl)
      try simp only [Act.put, List.setIfInBounds_toArray, List.set_cons_zero, List.set_cons_succ]
      refine anyT_oneL (i := 8) rfl (by kernel_rfl) ?_
      intro K hK
      go_simp
      refine (commit19 o kl lb r.log _ (show LogAt o kl w.drew lb r.log from HL.out)).mono ?_
      rintro e w1 ⟨rfl, hx1⟩
      obtain rfl := hx1.symm
      clear hx1
      try dsimp only
      clear hS
      have hS : (fun w' : World => w'.cell? ⟨b, 4, none⟩ = some (.pointer (some ⟨lb, 0, none⟩))) w.drew := c4
      refine hK _ _ (.inr hS) ?_
      clear hK K
      try simp only [Act.put, List.setIfInBounds_toArray, List.set_cons_zero, List.set_cons_succ]
      refine anyT_oneL (i := 9) rfl (by kernel_rfl) ?_
      intro K hK
      go_simp
      refine (term47 o kl lb r.log r.log.commit _ (show LogAt o kl w.drew lb r.log from HL.out) hel hs0 hs1 (by omega) (by omega)).mono ?_
      rintro e w2 ⟨rfl, hb2⟩
      have hb2' : Below w.heap.size w w2 := ⟨hb2.os, hb2.tape, hb2.output, hb2.size, hb2.block⟩
      have y4 := (hb2'.cell (p := ⟨b, 4, none⟩) hlt).trans c4
      have y2 := (hb2'.cell (p := ⟨b, 2, none⟩) hlt).trans c2
      have HB2 := Lib.hid hb2'
      have hs2 := hb2'.size
      clear hb2 hb2'
      try dsimp only
      clear hS
      have hS : (fun w' : World => w'.cell? ⟨b, 4, none⟩ = some (.pointer (some ⟨lb, 0, none⟩))) w2 := y4
      refine hK _ _ (.inr hS) ?_
      clear hK K
      try simp only [Act.put, List.setIfInBounds_toArray, List.set_cons_zero, List.set_cons_succ]
      refine anyT_takeL (i := 10) (v := ?vt10) rfl (by kernel_rfl) (by kernel_rfl) (by kernel_rfl) (by kernel_rfl) (by kernel_rfl) (fun _ _ _ h => h) (Or.inl ⟨by rfl, fun wS hSw => ?hyt10⟩) hS ?ret10
      case hyt10 => (dsimp only at hSw; obtain hS1 := hSw; go_simp; try with_reducible rfl)
      try simp only [Act.put, List.setIfInBounds_toArray, List.set_cons_zero, List.set_cons_succ]
      refine anyT_takeL (i := 11) (v := ?vt11) rfl (by kernel_rfl) (by kernel_rfl) (by kernel_rfl) (by kernel_rfl) (by kernel_rfl) (fun _ _ _ h => h) (Or.inl ⟨by rfl, fun wS hSw => ?hyt11⟩) hS ?ret11
      case hyt11 => (dsimp only at hSw; obtain hS1 := hSw; go_simp; try with_reducible rfl)
      try simp only [Act.put, List.setIfInBounds_toArray, List.set_cons_zero, List.set_cons_succ]
      refine anyT_takeL (i := 12) (v := ?vt12) rfl (by kernel_rfl) (by kernel_rfl) (by kernel_rfl) (by kernel_rfl) (by kernel_rfl) (fun _ _ _ h => h) (Or.inl ⟨by rfl, fun wS hSw => ?hyt12⟩) hS ?ret12
      case hyt12 => (dsimp only at hSw; obtain hS1 := hSw; go_simp; try with_reducible rfl)
      try simp only [Act.put, List.setIfInBounds_toArray, List.set_cons_zero, List.set_cons_succ]
      refine anyT_takeL (i := 13) (v := ?vt13) rfl (by kernel_rfl) (by kernel_rfl) (by kernel_rfl) (by kernel_rfl) (by kernel_rfl) (fun _ _ _ h => h) (Or.inl ⟨by rfl, fun wS hSw => ?hyt13⟩) hS ?ret13
      case hyt13 => (dsimp only at hSw; obtain hS1 := hSw; go_simp; try with_reducible rfl)
      try simp only [Act.put, List.setIfInBounds_toArray, List.set_cons_zero, List.set_cons_succ]
      refine anyT_oneL (i := 14) rfl (by kernel_rfl) ?_
      intro K hK
      go_simp
      try dsimp only
      refine hK _ _ (.inl rfl) ?_
      clear hK K hS
      try simp only [Act.put, List.setIfInBounds_toArray, List.set_cons_zero, List.set_cons_succ]
      refine anyT_done (by kernel_rfl) ?_ _
      try clear hS
      -- END
      generalize htv : termVal r.log r.log.commit = tv at *
      generalize termCode r.log r.log.commit = tc at *
      have HTV : Hid ((r.log.termAt r.log.commit).getD 0 = tv) := by rw [termVal_getD]; exact htv
      clear htv c2 c4 c6 f
      by_cases hchg : r.log.changing = true
      · have HCHG := Lib.hid hchg
        clear hchg
        go_wp2_with fail
        refine (changing48 o kl lb r.log _ (HL.out.below HB2.out) hel).mono ?_
        rintro e w3 ⟨he, hb3⟩
        rw [HCHG.out] at he
        subst he
        have HB3 := Lib.hid (HB2.out.trans (hb3.mono HB2.out.size))
        clear hb3
        go_wp2
        go_returns
        have hbad : r.change l = (0, 111, r) := by rw [HCH.out, if_pos (.inl HCHG.out)]
        exact ⟨.slice none 0 0, by rw [hbad]; rfl, by rw [hbad]; exact OutIs.none_ (H.out.below HB3.out hw) (Ext.of_below HB3.out hw) HOUT.out⟩
      · have hchg : r.log.changing = false := by simpa using hchg
        have HCHG := Lib.hid hchg
        clear hchg
        go_wp2_with fail
        refine (changing48 o kl lb r.log _ (HL.out.below HB2.out) hel).mono ?_
        rintro e w3 ⟨he, hb3⟩
        rw [HCHG.out] at he
        subst he
        have hb3' := HB2.out.trans (hb3.mono HB2.out.size)
        have z4 := (hb3.cell (p := ⟨b, 4, none⟩) (show b < w2.heap.size by omega)).trans y4
        have z2 := (hb3.cell (p := ⟨b, 2, none⟩) (show b < w2.heap.size by omega)).trans y2
        have HB3 := Lib.hid hb3'
        have hs3 := hb3'.size
        clear hb3 hb3' y4 y2
        by_cases htm : tv = r.term
        · have htm' : (tv != r.term) = false := by simpa using htm
          have HTM := Lib.hid htm
          clear htm
          go_wp2_with fail
          refine (members17 o kl lb r.log _ (HL.out.below HB3.out) HF.out.ok.log).mono ?_
          rintro e w4 ⟨A4, n4, c4, rfl, hI4, hb4⟩
          have HB4 := Lib.hid (HB3.out.trans (hb4.mono HB3.out.size))
          have HI4 := Lib.hid hI4
          clear hb4 hI4 z4 z2
          go_wp2_with fail
          refine (unlike49 _ _ l r.log.members B _ _ (IntsAt.stays HD.out (Stays.of_below HB4.out)) HI4.out (by omega) (by have := HF.out.ok.mlen; omega)).mono ?_
          rintro e w5 ⟨rfl, hx⟩
          obtain rfl := hx.symm
          clear hx
          by_cases hdf : diff5 l r.log.members = 1
          · have hdf' : (((diff5 l r.log.members : Nat) : Int) != 1) = false := by rw [hdf]; rfl
            have HDF := Lib.hid hdf
            clear hdf
            generalize diff5 l r.log.members = df at hdf' HDF HCH
            go_wp2
            have HST : Hid (BytesMade l 0 w4 (.slice none 0 0) w4) := ⟨zeroOwn, RowOf.nil_, Ext.refl _ _ _⟩
            go_loopw [9, 60] (fun d i wr => ∃ k : Nat, k ≤ n0 ∧ i = .int .i64 k ∧ Hid (BytesMade l k w4 d wr)) (fun _ i _ => n0 - (intOf i).toNat)
            case atStart => exact ⟨0, Nat.zero_le _, rfl, HST⟩
            case round =>
              obtain ⟨k, hk', rfl, HI⟩ := hrel
              have HBR : Hid (Below w4.heap.size w4 wr) := by
                obtain ⟨o9, _, he⟩ := HI.out
                exact he.zero_below (by simp)
              by_cases hlt3 : k < n0
              · obtain ⟨x, hx⟩ : ∃ x, l[k]? = some x := ⟨_, List.getElem?_eq_getElem (by have := HN0.out; omega)⟩
                obtain ⟨g, off, rfl, hg, k0⟩ := IntsAt.at? (IntsAt.stays HD.out (Stays.of_below (HB4.out.trans (HBR.out.mono HB4.out.size)))) hx
                have hxm := hl5.out.2 x (List.mem_of_getElem? hx)
                have hx0 := hxm.1
                have hx1 := hxm.2
                have HLT := Lib.hid hlt3
                have HA := Lib.hid (bytes_step hx hll (by omega) (by omega) HI.out 46)
                clear hx hxm
                go_wp2_with (at_builtin; refine wpList_append_ex rfl (.tmp 64) (.tmp 67) 46 rfl _ _ _ rfl rfl HA.out ?_; rintro v' w' HI')
                go_roundw
                case rel =>
                  exact ⟨k + 1, by have := HLT.out; omega, by go_num, HI'⟩
                case measure => have := HLT.out; simp [intOf]; omega
              · obtain rfl : k = n0 := by omega
                obtain ⟨o9, hrow, hext⟩ := HI.out
                rw [List.take_of_length_le (by have := HN0.out; omega)] at hrow
                obtain ⟨A9, c9, rfl, _⟩ := hrow.form
                have HDAT := Lib.hid hrow.slice
                have HBB := Lib.hid (HB4.out.trans (HBR.out.mono HB4.out.size))
                have hgood : r.change l = r.addM 3 l := by
                  rw [HCH.out, if_neg]
                  rintro (h | h | h)
                  · rw [HCHG.out] at h; cases h
                  · exact h (by rw [HTV.out, HTM.out])
                  · exact h HDF.out
                have HG := Lib.hid hgood
                clear hrow hext hgood HST HI
                go_wp2_with fail
                refine (add45 o kr kl b r 3 l A9 _ c9 (Of o9 1) _ (H.out.below HBB.out hw) HF.out (by omega) (by omega) (by have := hl5.out.1; omega) HDAT.out HOUT.out (fun b hb => hw b (Nat.le_trans HBB.out.size hb)) hk hkl hl0).mono ?_
                rintro e w6 ⟨v6, rfl, o6, A6, n6, hv6⟩
                have HV := Lib.hid hv6
                clear hv6
                go_wp2
                go_returns
                obtain ⟨q1, q2, q3, q4⟩ := HV.out
                exact ⟨v6, by rw [HG.out]; rfl, by rw [HG.out]; exact ⟨o6, A6, n6, q1, q2, q3, (Ext.of_below HBB.out hw).trans q4⟩⟩
          · have hdf' : (((diff5 l r.log.members : Nat) : Int) != 1) = true := by simp; omega
            have HDF := Lib.hid hdf
            clear hdf
            go_wp2
            go_returns
            have hbad : r.change l = (0, 111, r) := by rw [HCH.out, if_pos (.inr (.inr HDF.out))]
            exact ⟨.slice none 0 0, by rw [hbad]; rfl, by rw [hbad]; exact OutIs.none_ (H.out.below HB4.out hw) (Ext.of_below HB4.out hw) HOUT.out⟩
        · have htm' : (tv != r.term) = true := by simpa using htm
          have HTM := Lib.hid htm
          clear htm
          go_wp2
          go_returns
          have hbad : r.change l = (0, 111, r) := by rw [HCH.out, if_pos (.inr (.inl (by rw [HTV.out]; exact HTM.out)))]
          exact ⟨.slice none 0 0, by rw [hbad]; rfl, by rw [hbad]; exact OutIs.none_ (H.out.below HB3.out hw) (Ext.of_below HB3.out hw) HOUT.out⟩
    · have hmb : membersB l = false := by simpa using hmb
      have HMB := Lib.hid hmb
      clear hmb
      have hchange : r.change l = (0, 1, r) := by
        unfold RaftM.change
        rw [if_neg (by simpa using HROLE.out), if_pos HMB.out]
      have HCH := Lib.hid hchange
      clear hchange
      go_enter Try.func15, Try.ntmps15
      go_wp2_with fail
      refine (members46 _ l B _ HD.out (by omega)).mono ?_
      rintro e w' ⟨he, hx⟩
      rw [membersC_eq, HMB.out] at he
      subst he
      obtain rfl := hx.symm
      clear hx
      go_wp2
      go_returns
      exact ⟨.slice none 0 0, by rw [HCH.out]; rfl, by rw [HCH.out]; exact OutIs.none_ H.out (Ext.refl _ _ _) HOUT.out⟩
  · have hr' : (r.role != 3) = true := by simpa using hrole
    have hchange : r.change l = (0, 110, r) := by unfold RaftM.change; rw [if_pos hrole]
    have HCH := Lib.hid hchange
    clear hchange hrole
    go_enter Try.func15, Try.ntmps15
    go_wp2
    go_returns
    exact ⟨.slice none 0 0, by rw [HCH.out]; rfl, by rw [HCH.out]; exact OutIs.none_ H.out (Ext.refl _ _ _) HOUT.out⟩
end Go.Proofs.Ytibkmhacpodceaa

/- Walks: New. -/
namespace Go.Proofs.Ytibkmhacpodceaa
open Go.RowKit

def RaftM.freshG (group id term vote : Int) (log : LogM) (state : List Int) : RaftM :=
  { group := group, id := id, term := term, vote := vote, log := log, state := state, role := 1, leader := 0, elapsed := 0, votes := List.replicate 6 false, others := List.replicate 6 (0, 0), out := [] }

def NewIs (o : Own) (kr kl : Nat) (r : RaftM) (w : World) (e : Ending) (w' : World) : Prop :=
  ∃ b' o', e = .returned (.tuple #[.pointer (some ⟨b', 0, none⟩), .int .i64 0]) ∧ RaftAt o' kr kl w' b' r ∧ Ext [] o o' w w'

theorem RaftAt.made {o o2 : Own} {kr kl b2 : Nat} {w w3 : World} {g id term vote : Int} {L : LogM} {st : List Int} {A : Option Addr} {n c : Nat} (hL : LogAt o2 kl w3 b2 L) (hD : BytesAt (Of o2 0) w3 (.slice A n c) st) (hE : Ext [] o o2 w w3) :
    RaftAt (upd o2 w3.heap.size kr) kr kl (w3.alloc (.cells #[.int .i64 g, .int .i64 id, .int .i64 term, .int .i64 vote, .pointer (some ⟨b2, 0, none⟩), .slice A n c, .int .i64 1, .int .i64 0, .int .i64 0, .bool false, .bool false, .bool false, .bool false, .bool false, .bool false,
      .int .i64 0, .int .i64 0, .int .i64 0, .int .i64 0, .int .i64 0, .int .i64 0, .int .i64 0, .int .i64 0, .int .i64 0, .int .i64 0, .int .i64 0, .int .i64 0, .slice none 0 0] 79)) w3.heap.size (RaftM.freshG g id term vote L st) ∧
    Ext [] o (upd o2 w3.heap.size kr) w (w3.alloc (.cells #[.int .i64 g, .int .i64 id, .int .i64 term, .int .i64 vote, .pointer (some ⟨b2, 0, none⟩), .slice A n c, .int .i64 1, .int .i64 0, .int .i64 0, .bool false, .bool false, .bool false, .bool false, .bool false, .bool false,
      .int .i64 0, .int .i64 0, .int .i64 0, .int .i64 0, .int .i64 0, .int .i64 0, .int .i64 0, .int .i64 0, .int .i64 0, .int .i64 0, .int .i64 0, .int .i64 0, .slice none 0 0] 79)) := by
  have hA := ((Ext.refl [] o2 w3).alloc (.cells #[.int .i64 g, .int .i64 id, .int .i64 term, .int .i64 vote, .pointer (some ⟨b2, 0, none⟩), .slice A n c, .int .i64 1, .int .i64 0, .int .i64 0, .bool false, .bool false, .bool false, .bool false, .bool false, .bool false,
      .int .i64 0, .int .i64 0, .int .i64 0, .int .i64 0, .int .i64 0, .int .i64 0, .int .i64 0, .int .i64 0, .int .i64 0, .int .i64 0, .int .i64 0, .int .i64 0, .slice none 0 0] 79)).give (g := w3.heap.size) (k := kr) (Nat.le_refl _) (by simp)
  exact ⟨⟨b2, A, n, c, none, 0, 0, Blk.new w3 79 _, upd_same _ _ _, hL.ext hA (by simp) (by simp), BytesAt.stays hD (hA.stays (by simp)), RowOf.nil_, rfl, rfl⟩, hE.trans hA⟩

set_option maxRecDepth 100000 in
set_option maxHeartbeats 4000000 in
theorem new9 (o : Own) (kr kl lb : Nat) (L : LogM) (g id term vote : Int) (st : List Int) (A0 : Option Addr) (n0 c0 : Nat) (w : World) (h : LogAt o kl w lb L) (hok : L.Ok) (hg0 : 1 ≤ g) (hg1 : g ≤ 255) (hi0 : 1 ≤ id) (hi1 : id ≤ 5) (ht0 : 0 ≤ term) (ht1 : term ≤ 20000) (hv : vote = 0 ∨ (1 ≤ vote ∧ vote ≤ 5)) (hlast : L.last.2 ≤ term)
    (hD : BytesAt (Of o 0) w (.slice A0 n0 c0) st) (hst : st.length ≤ 100) (hw : Wf o w) (hk : kr ≠ 0) (hkl : kr ≠ kl) :
    Calls Try.prog 9 #[.int .i64 g, .int .i64 id, .int .i64 term, .int .i64 vote, .pointer (some ⟨lb, 0, none⟩), .slice A0 n0 c0] w (NewIs o kr kl (RaftM.freshG g id term vote L st) w) := by
  have H := Lib.hid h
  have HD := Lib.hid hD
  have hn0 := hD.len.1
  have hn1 : n0 ≤ 100 := by omega
  have hl := hok.len
  have hl2 := hok.last2
  have hsm := hok.mlen
  have HN0 := Lib.hid hn0
  have hid' : okNode id = true := by unfold okNode; simp; omega
  have htm' : okCount term = true := by unfold okCount; simp; omega
  have HID := Lib.hid (And.intro hid' htm')
  clear h hD hn0 hid' htm'
  go_enter Try.func9, Try.ntmps9
  go_wp2_with fail
  refine (last28 o kl lb L _ H.out hl).mono ?_
  rintro e w1 ⟨rfl, hb1⟩
  have HB1 := Lib.hid hb1
  clear hb1 hok
  generalize L.last.1 = la at *
  generalize L.last.2 = lt at *
  go_wp2_with fail
  refine (node29 id _).mono ?_
  rintro e w' ⟨he, hx⟩
  rw [HID.out.1] at he
  subst he
  obtain rfl := hx.symm
  clear hx
  go_wp2_with fail
  refine (count30 term _).mono ?_
  rintro e w' ⟨he, hx⟩
  rw [HID.out.2] at he
  subst he
  obtain rfl := hx.symm
  clear hx
  have hlt' : ¬ term < lt := by omega
  have hcopy : ∀ W, Below w1.heap.size w1 W → LogAt o kl W lb L := fun W hb => (H.out.below HB1.out).below hb
  rcases hv with hv | ⟨hv0, hv1⟩
  · subst hv
    go_wp2_with fail
    refine (copy31 o kl lb L _ (H.out.below HB1.out) (by omega) (fun b hb => hw b (Nat.le_trans HB1.out.size hb))).mono ?_
    rintro e w2 ⟨b2, o2, rfl, hL2, hE2⟩
    have HL2 := Lib.hid hL2
    have HE2 := Lib.hid hE2
    have HD2 : Hid (BytesAt (Of o2 0) w2 (.slice A0 n0 c0) st) := BytesAt.stays HD.out ((Stays.of_below HB1.out).trans (hE2.stays (by simp)))
    have HW2 : Hid (Wf o2 w2) := hE2.wf (fun b hb => hw b (Nat.le_trans HB1.out.size hb))
    clear hL2 hE2
    go_wp2_with fail
    refine (clone32 _ st _ _ HD2.out (by omega)).mono ?_
    rintro e w3 ⟨v3, rfl, hD3, hb3⟩
    obtain ⟨A3, c3, rfl, _⟩ := hD3.form
    have HD3 : Hid (BytesAt (Of o2 0) w3 (.slice A3 st.length c3) st) := BytesAt.stays hD3 (Stays.weak _ fun b hb => HW2.out b hb)
    have HB3 := Lib.hid hb3
    clear hD3 hb3
    go_wp2
    go_ret2
    have hm := RaftAt.made (g := g) (id := id) (term := term) (vote := 0) (kr := kr) (HL2.out.below HB3.out) HD3.out ((Ext.of_below (S := []) HB1.out hw).trans (HE2.out.trans (Ext.of_below HB3.out HW2.out)))
    exact ⟨_, _, rfl, hm.1, hm.2⟩
  · have hv' : (vote != 0) = true := by simp; omega
    have hvn : okNode vote = true := by unfold okNode; simp; omega
    have HVN := Lib.hid hvn
    clear hvn
    go_wp2_with fail
    refine (node29 vote _).mono ?_
    rintro e w' ⟨he, hx⟩
    rw [HVN.out] at he
    subst he
    obtain rfl := hx.symm
    clear hx
    go_wp2_with fail
    refine (copy31 o kl lb L _ (H.out.below HB1.out) (by omega) (fun b hb => hw b (Nat.le_trans HB1.out.size hb))).mono ?_
    rintro e w2 ⟨b2, o2, rfl, hL2, hE2⟩
    have HL2 := Lib.hid hL2
    have HE2 := Lib.hid hE2
    have HD2 : Hid (BytesAt (Of o2 0) w2 (.slice A0 n0 c0) st) := BytesAt.stays HD.out ((Stays.of_below HB1.out).trans (hE2.stays (by simp)))
    have HW2 : Hid (Wf o2 w2) := hE2.wf (fun b hb => hw b (Nat.le_trans HB1.out.size hb))
    clear hL2 hE2
    go_wp2_with fail
    refine (clone32 _ st _ _ HD2.out (by omega)).mono ?_
    rintro e w3 ⟨v3, rfl, hD3, hb3⟩
    obtain ⟨A3, c3, rfl, _⟩ := hD3.form
    have HD3 : Hid (BytesAt (Of o2 0) w3 (.slice A3 st.length c3) st) := BytesAt.stays hD3 (Stays.weak _ fun b hb => HW2.out b hb)
    have HB3 := Lib.hid hb3
    clear hD3 hb3
    go_wp2
    go_ret2
    have hm := RaftAt.made (g := g) (id := id) (term := term) (vote := vote) (kr := kr) (HL2.out.below HB3.out) HD3.out ((Ext.of_below (S := []) HB1.out hw).trans (HE2.out.trans (Ext.of_below HB3.out HW2.out)))
    exact ⟨_, _, rfl, hm.1, hm.2⟩
end Go.Proofs.Ytibkmhacpodceaa
