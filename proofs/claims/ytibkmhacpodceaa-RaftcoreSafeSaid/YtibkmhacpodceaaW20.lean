/- Walks: a node's cells; send, take. -/
import Derived.Test.YtibkmhacpodceaaW14
import Derived.Handy
import Derived.Test.YtibkmhacpodceaaAnyT
namespace Go.Proofs.Ytibkmhacpodceaa
open Go.RowKit

/-- the cells that hold a thing's votes and others -/
theorem six {α : Type} {l : List α} (h : l.length = 6) : ∃ a b c d e f, l = [a, b, c, d, e, f] := by
  match l, h with
  | [a, b, c, d, e, f], _ => exact ⟨a, b, c, d, e, f, rfl⟩

section
variable {r : RaftM} {lb : Nat} {sv ov : Value}
theorem raftCells_out (h6 : r.votes.length = 6) (h7 : r.others.length = 6) : (raftCells r lb sv ov)[27]? = some ov := by
  obtain ⟨_, _, _, _, _, _, hv⟩ := six h6
  obtain ⟨⟨_, _⟩, ⟨_, _⟩, ⟨_, _⟩, ⟨_, _⟩, ⟨_, _⟩, ⟨_, _⟩, ho⟩ := six h7
  simp [raftCells, hv, ho]
theorem raftCells_setOut (h6 : r.votes.length = 6) (h7 : r.others.length = 6) (u : Value) : (raftCells r lb sv ov).set 27 u = raftCells r lb sv u := by
  obtain ⟨_, _, _, _, _, _, hv⟩ := six h6
  obtain ⟨⟨_, _⟩, ⟨_, _⟩, ⟨_, _⟩, ⟨_, _⟩, ⟨_, _⟩, ⟨_, _⟩, ho⟩ := six h7
  simp [raftCells, hv, ho]
theorem raftCells_vote (h6 : r.votes.length = 6) (p : Nat) (hp : p < 6) : (raftCells r lb sv ov)[9 + p]? = some (.bool ((r.votes[p]?).getD false)) := by
  obtain ⟨_, _, _, _, _, _, hv⟩ := six h6
  match p, hp with
  | 0, _ | 1, _ | 2, _ | 3, _ | 4, _ | 5, _ => simp [raftCells, hv]
theorem raftCells_setVote (h6 : r.votes.length = 6) (p : Nat) (hp : p < 6) (v : Bool) : (raftCells r lb sv ov).set (9 + p) (.bool v) = raftCells { r with votes := r.votes.set p v } lb sv ov := by
  obtain ⟨_, _, _, _, _, _, hv⟩ := six h6
  match p, hp with
  | 0, _ | 1, _ | 2, _ | 3, _ | 4, _ | 5, _ => simp [raftCells, hv]
theorem raftCells_next (h6 : r.votes.length = 6) (h7 : r.others.length = 6) (p : Nat) (hp : p < 6) : (raftCells r lb sv ov)[15 + p * 2]? = some (.int .i64 ((r.others[p]?).getD (0, 0)).1) := by
  obtain ⟨_, _, _, _, _, _, hv⟩ := six h6
  obtain ⟨⟨_, _⟩, ⟨_, _⟩, ⟨_, _⟩, ⟨_, _⟩, ⟨_, _⟩, ⟨_, _⟩, ho⟩ := six h7
  match p, hp with
  | 0, _ | 1, _ | 2, _ | 3, _ | 4, _ | 5, _ => simp [raftCells, hv, ho]
theorem raftCells_match (h6 : r.votes.length = 6) (h7 : r.others.length = 6) (p : Nat) (hp : p < 6) : (raftCells r lb sv ov)[15 + p * 2 + 1]? = some (.int .i64 ((r.others[p]?).getD (0, 0)).2) := by
  obtain ⟨_, _, _, _, _, _, hv⟩ := six h6
  obtain ⟨⟨_, _⟩, ⟨_, _⟩, ⟨_, _⟩, ⟨_, _⟩, ⟨_, _⟩, ⟨_, _⟩, ho⟩ := six h7
  match p, hp with
  | 0, _ | 1, _ | 2, _ | 3, _ | 4, _ | 5, _ => simp [raftCells, hv, ho]
theorem raftCells_setNext (h6 : r.votes.length = 6) (h7 : r.others.length = 6) (p : Nat) (hp : p < 6) (n : Int) :
    (raftCells r lb sv ov).set (15 + p * 2) (.int .i64 n) = raftCells { r with others := r.others.set p (n, ((r.others[p]?).getD (0, 0)).2) } lb sv ov := by
  obtain ⟨_, _, _, _, _, _, hv⟩ := six h6
  obtain ⟨⟨_, _⟩, ⟨_, _⟩, ⟨_, _⟩, ⟨_, _⟩, ⟨_, _⟩, ⟨_, _⟩, ho⟩ := six h7
  match p, hp with
  | 0, _ | 1, _ | 2, _ | 3, _ | 4, _ | 5, _ => simp [raftCells, hv, ho]
theorem raftCells_setMatch (h6 : r.votes.length = 6) (h7 : r.others.length = 6) (p : Nat) (hp : p < 6) (n : Int) :
    (raftCells r lb sv ov).set (15 + p * 2 + 1) (.int .i64 n) = raftCells { r with others := r.others.set p (((r.others[p]?).getD (0, 0)).1, n) } lb sv ov := by
  obtain ⟨_, _, _, _, _, _, hv⟩ := six h6
  obtain ⟨⟨_, _⟩, ⟨_, _⟩, ⟨_, _⟩, ⟨_, _⟩, ⟨_, _⟩, ⟨_, _⟩, ho⟩ := six h7
  match p, hp with
  | 0, _ | 1, _ | 2, _ | 3, _ | 4, _ | 5, _ => simp [raftCells, hv, ho]
end

/-- the plain cells of a node, as rules for the walk -/
structure RaftCells (w : World) (b : Nat) (r : RaftM) (lb : Nat) (sv ov : Value) : Prop where
  c0 : w.cell? ⟨b, 0, none⟩ = some (.int .i64 r.group)
  c1 : w.cell? ⟨b, 1, none⟩ = some (.int .i64 r.id)
  c2 : w.cell? ⟨b, 2, none⟩ = some (.int .i64 r.term)
  c3 : w.cell? ⟨b, 3, none⟩ = some (.int .i64 r.vote)
  c4 : w.cell? ⟨b, 4, none⟩ = some (.pointer (some ⟨lb, 0, none⟩))
  c5 : w.cell? ⟨b, 5, none⟩ = some sv
  c6 : w.cell? ⟨b, 6, none⟩ = some (.int .i64 r.role)
  c7 : w.cell? ⟨b, 7, none⟩ = some (.int .i64 r.leader)
  c8 : w.cell? ⟨b, 8, none⟩ = some (.int .i64 r.elapsed)
  c27 : w.cell? ⟨b, 27, none⟩ = some ov
  f : ∀ i, w.frozen? ⟨b, i, none⟩ = false
  lt : b < w.heap.size

theorem Blk.raft {w : World} {b : Nat} {r : RaftM} {lb : Nat} {sv ov : Value} (h : Blk w b 79 (raftCells r lb sv ov)) (h6 : r.votes.length = 6) (h7 : r.others.length = 6) : RaftCells w b r lb sv ov :=
  ⟨h.cells 0, h.cells 1, h.cells 2, h.cells 3, h.cells 4, h.cells 5, h.cells 6, h.cells 7, h.cells 8, (h.cells 27).trans (raftCells_out h6 h7), h.frozens, h.lt⟩

theorem RaftAt.open_ {o : Own} {kr kl : Nat} {w : World} {b : Nat} {r : RaftM} (h : RaftAt o kr kl w b r) : ∃ lb A n c A2 n2 c2,
    RaftCells w b r lb (.slice A n c) (.slice A2 n2 c2) ∧ o b = kr ∧ LogAt o kl w lb r.log ∧ BytesAt (Of o 0) w (.slice A n c) r.state ∧ RowOf 12 (MsgR (Of o 0) w) 48 o kr w (.slice A2 n2 c2) r.out ∧ r.votes.length = 6 ∧ r.others.length = 6 ∧
      Blk w b 79 (raftCells r lb (.slice A n c) (.slice A2 n2 c2)) := by
  obtain ⟨lb, A, n, c, A2, n2, c2, hb, ho, hL, hs, hr, h6, h7⟩ := h
  exact ⟨lb, A, n, c, A2, n2, c2, hb.raft h6 h7, ho, hL, hs, hr, h6, h7, hb⟩

/-- a cell of the node is written: not its log, its state, its row -/
theorem RaftAt.field {o : Own} {kr kl : Nat} {w : World} {b : Nat} {r r' : RaftM} (h : RaftAt o kr kl w b r) (hk : kr ≠ 0) (hkl : kr ≠ kl) (i : Nat) (u : Value)
    (hcs : ∀ lb sv ov, (raftCells r lb sv ov).set i u = raftCells r' lb sv ov) (hl : r'.log = r.log) (hst : r'.state = r.state) (hou : r'.out = r.out) (h6 : r'.votes.length = 6) (h7 : r'.others.length = 6) :
    RaftAt o kr kl (w.setCell ⟨b, i, none⟩ u) b r' ∧ Ext [kr] o o w (w.setCell ⟨b, i, none⟩ u) := by
  obtain ⟨lb, A, n, c, A2, n2, c2, hb, ho, hL, hs, hr, _, _⟩ := h
  have hB := hb.set_ i u
  rw [hcs] at hB
  have hst0 : Stays (Of o 0) (Of o 0) w (w.setCell ⟨b, i, none⟩ u) := (Stays.refl _ w).setCell (by simp [Of, ho, hk]) _
  have he : Ext [kr] o o w (w.setCell ⟨b, i, none⟩ u) := (Ext.refl [kr] o w).setCell (.inr (by simp [ho])) _
  refine ⟨⟨lb, A, n, c, A2, n2, c2, hB, ho, ?_, ?_, ?_, h6, h7⟩, he⟩
  · obtain ⟨A', n', c', A2', n2', c2', hb', ho', hm', hr'⟩ := hL
    rw [hl]
    have hne : lb ≠ b := by rintro rfl; rw [ho] at ho'; exact hkl ho'
    exact ⟨A', n', c', A2', n2', c2', hb'.far hne u, ho', IntsAt.stays hm' hst0, hr'.stays ((Stays.refl _ w).setCell (by simp only [Of]; rw [ho]; exact hkl) _) fun _ _ => EntR.stays hst0⟩
  · rw [hst]; exact BytesAt.stays hs hst0
  · rw [hou]; exact hr.far hb (by simp) _ fun _ _ => MsgR.stays hst0

/-- the row of what is to be sent is another one now -/
theorem RaftAt.putOut {o o' : Own} {kr kl : Nat} {w w' : World} {b : Nat} {r : RaftM} (h : RaftAt o kr kl w b r) (hk : kr ≠ 0) (hkl : kr ≠ kl) (he : Ext [kr] o o' w w') (hoth : Others 48 w w') {v : Value} {l : List Msg}
    (hv : RowOf 12 (MsgR (Of o' 0) w') 48 o' kr w' v l) : RaftAt o' kr kl (w'.setCell ⟨b, 27, none⟩ v) b { r with out := l } ∧ Ext [kr] o o' w (w'.setCell ⟨b, 27, none⟩ v) := by
  obtain ⟨lb, A, n, c, A2, n2, c2, hb, ho, hL, hs, hr, h6, h7⟩ := h
  have hB : Blk w' b 79 _ := hoth _ _ _ hb (by simp)
  have hB2 := hB.set_ 27 v
  rw [raftCells_setOut h6 h7] at hB2
  obtain ⟨A5, c5, rfl, _⟩ := hv.form
  have ho' : o' b = kr := (he.own b hb.lt).trans ho
  have hst0 : Stays (Of o' 0) (Of o' 0) w' (w'.setCell ⟨b, 27, none⟩ (.slice A5 l.length c5)) := (Stays.refl _ w').setCell (by simp [Of, ho', hk]) _
  have hne : lb ≠ b := by
    obtain ⟨_, _, _, _, _, _, _, hol, _⟩ := hL
    rintro rfl; rw [ho] at hol; exact hkl hol
  have hst1 := (he.stays (k := 0) (by simpa using hk.symm)).trans hst0
  refine ⟨⟨lb, A, n, c, A5, _, c5, hB2, ho', ?_, BytesAt.stays hs hst1, hv.far hB (by simp) _ fun _ _ => MsgR.stays hst0, h6, h7⟩, he.setCell (.inr (by simp [ho])) _⟩
  have hL' := hL.ext he (by simpa using hkl.symm) (by simpa using hk.symm)
  obtain ⟨A', n', c', A2', n2', c2', hb', hol', hm', hr'⟩ := hL'
  exact ⟨A', n', c', A2', n2', c2', hb'.far hne _, hol', IntsAt.stays hm' hst0, hr'.stays ((Stays.refl _ w').setCell (by simp only [Of]; rw [ho']; exact hkl) _) fun _ _ => EntR.stays hst0⟩

/-- two slices of messages: no room left -/
theorem clip57 (A : Option Addr) (n c : Nat) (w : World) (hc : n ≤ c) : Calls Try.prog 57 #[.slice A n c] w fun e w' => e = .returned (.slice A n n) ∧ w' = w := by
  go_enter Try.func57, Try.ntmps57
  go_wp2
  all_goals
    go_ret
    first
      | exact ⟨rfl, rfl⟩
      | (refine ⟨?_, rfl⟩; simp_all)

def TakeIs (o : Own) (kr kl : Nat) (b : Nat) (r : RaftM) (w : World) (e : Ending) (w' : World) : Prop :=
  ∃ A n, e = .returned (.slice A n n) ∧ SliceOf 12 (MsgR (Of o 0) w') (Of o kr) w' (.slice A n n) r.out ∧ RaftAt o kr kl w' b { r with out := [] } ∧ Ext [kr] o o w w'

set_option maxHeartbeats 1000000 in
theorem take34 (o : Own) (kr kl : Nat) (b : Nat) (r : RaftM) (w : World) (h : RaftAt o kr kl w b r) (hk : kr ≠ 0) (hkl : kr ≠ kl) :
    Calls Try.prog 34 #[.pointer (some ⟨b, 0, none⟩)] w (TakeIs o kr kl b r w) := by
  obtain ⟨lb, A, n, c, A2, n2, c2, hc, ho, hL, hs, hr, h6, h7, hB⟩ := h.open_
  have c27 := hc.c27
  have f := hc.f
  have hlt := hc.lt
  have hn2 := hr.slice.len.2
  have HR := Lib.hid (And.intro h hr)
  clear hc h hB h6 h7
  go_enter Try.func34, Try.ntmps34
  go_wp2_with fail
  refine (clip57 A2 n2 c2 w hn2).mono ?_
  rintro e w1 ⟨rfl, hx⟩
  obtain rfl := hx.symm
  clear hx
  go_wp2
  go_ret
  have hcl := HR.out.2.clip (m := n2) (Nat.le_refl _)
  rw [HR.out.2.slice.len.1, List.take_length] at hcl
  obtain ⟨k1, k2⟩ := HR.out.1.putOut hk hkl (Ext.refl [kr] o w) (fun _ _ _ h _ => h) (v := .slice none 0 0) (l := []) RowOf.nil_
  obtain ⟨_, _, _, _, _, _, _, hB, ho, _⟩ := HR.out.1
  refine ⟨A2, n2, by rw [HR.out.2.slice.len.1]; rfl, ?_, k1, k2⟩
  rw [HR.out.2.slice.len.1]
  exact (hcl.far hB (by simp) _ fun _ _ => MsgR.stays ((Stays.refl _ w).setCell (by simp [Of, ho, hk]) _)).slice

theorem Blk.setTo {w : World} {g : Nat} {t : TypeId} {cs cs' : List Value} {i : Nat} {u : Value} (h : Blk w g t cs) (e : cs.set i u = cs') : Blk (w.setCell ⟨g, i, none⟩ u) g t cs' := e ▸ h.set_ i u

/-! send -/

def SendIs (o : Own) (kr kl : Nat) (b : Nat) (r : RaftM) (w : World) (e : Ending) (w' : World) : Prop :=
  (∃ v, e = .returned v) ∧ ∃ o', RaftAt o' kr kl w' b r ∧ Ext [kr] o o' w w'

theorem Stays.own0 {o : Own} {w w' : World} {k : Nat} (hk : k ≠ 0) {o' : Own} (he : Ext [k] o o' w w') : Stays (Of o 0) (Of o' 0) w w' := he.stays (by simpa using hk.symm)

theorem send_step {o : Own} {kr kl b : Nat} {r : RaftM} {w w1 : World} (h : RaftAt o kr kl w b r) (hw : Wf o w) (hk : kr ≠ 0) (hkl : kr ≠ kl) (hb : Below w.heap.size w w1) (hlen : r.out.length ≤ 50000) (m : Msg) {cs : List Value} (hm : MsgR (Of o 0) w m cs) {A2 : Option Addr} {n2 c2 : Nat} (hc : w.cell? ⟨b, 27, none⟩ = some (.slice A2 n2 c2)) :
    ∃ v' w', (Builtin.append_ #[39, 39] 39 #[.slice A2 n2 c2, .slice (some ⟨w1.heap.size, 0, none⟩) 1 1]).run Try.prog (w1.alloc (.cells cs.toArray 48)).drew = .ok v' w' ∧
      ∃ A' n' c', v' = .slice A' n' c' ∧ b < w'.heap.size ∧ (∀ i, w'.frozen? ⟨b, i, none⟩ = false) ∧ w'.cell? ⟨b, 27, none⟩ = some (.slice A2 n2 c2) ∧ Hid (∃ o', RaftAt o' kr kl (w'.setCell ⟨b, 27, none⟩ v') b { r with out := r.out ++ [m] } ∧ Ext [kr] o o' w (w'.setCell ⟨b, 27, none⟩ v')) := by
  obtain ⟨lb, A, n, c, A3, n3, c3, hB, ho, hL, hs, hr, h6, h7⟩ := id h
  have q := hB.cells 27
  rw [raftCells_out h6 h7, hc] at q
  simp only [Option.some.injEq, Value.slice.injEq] at q
  obtain ⟨rfl, rfl, rfl⟩ := q
  have e1 : Ext [] o o w (w1.alloc (.cells cs.toArray 48)).drew := ((Ext.of_below hb hw).alloc _).drew
  have hr1 := hr.stays (e1.stays (k := kr) (by simp)) (fun _ _ => MsgR.stays (e1.stays (k := 0) (by simp)))
  have hx : SliceOf 12 (MsgR (Of o 0) (w1.alloc (.cells cs.toArray 48)).drew) Any (w1.alloc (.cells cs.toArray 48)).drew (.slice (some ⟨w1.heap.size, 0, none⟩) 1 1) [m] := by
    refine SliceOf.one (Blk.new w1 48 _).drew trivial ?_ (MsgR.stays (e1.stays (by simp)) hm)
    obtain ⟨_, _, _, _, _, _, _, _, _, rfl, _⟩ := hm
    rfl
  obtain ⟨v', w', h1, o', h2, h3, h4⟩ := append_msgs 39 hk hr1 hx (by simp; omega)
  have e2 := (e1.mono (S' := [kr]) (by simp)).trans h3
  have hoth : Others 48 w w' := fun g t cs hb' ht => h4 _ _ _ (e1.blk hb' (by simp)) ht
  have B1 := hoth _ _ _ hB (by simp)
  obtain ⟨A5, c5, rfl, _⟩ := h2.form
  exact ⟨_, w', h1, A5, _, c5, rfl, B1.lt, B1.frozens, (B1.cells 27).trans (raftCells_out h6 h7), o', h.putOut hk hkl e2 hoth h2⟩

set_option maxHeartbeats 2000000 in
theorem send59 (o : Own) (kr kl : Nat) (b : Nat) (r : RaftM) (m : Msg) (g f t : Int) (A n c A2 n2 c2 A3 n3 c3) (w : World) (h : RaftAt o kr kl w b r) (hw : Wf o w) (hk : kr ≠ 0) (hkl : kr ≠ kl) (hlen : r.out.length ≤ 50000)
    (hE : EntsAt (Of o 0) (Of o 0) w (.slice A n c) m.entries) (hI : IntsAt (Of o 0) w (.slice A2 n2 c2) m.members) (hD : BytesAt (Of o 0) w (.slice A3 n3 c3) m.data) :
    Calls Try.prog 59 #[.pointer (some ⟨b, 0, none⟩), .agg #[.int .i64 m.kind, .int .i64 g, .int .i64 f, .int .i64 m.to_, .int .i64 t, .int .i64 m.index, .int .i64 m.logTerm, .int .i64 m.commit, .bool m.ok, .slice A n c, .slice A2 n2 c2, .slice A3 n3 c3]] w
      (SendIs o kr kl b (r.send m) w) := by
  obtain ⟨lb, As, ns, cs, Ao, no, co, hc, ho, hL, hs, hr, h6, h7, hB⟩ := h.open_
  have c0 := hc.c0
  have c1 := hc.c1
  have c2' := hc.c2
  have c27 := hc.c27
  have hlt := hc.lt
  have hfr := hc.f
  have HM : Hid (MsgR (Of o 0) w { m with group := r.group, from_ := r.id, term := r.term } [.int .i64 m.kind, .int .i64 r.group, .int .i64 r.id, .int .i64 m.to_, .int .i64 r.term, .int .i64 m.index, .int .i64 m.logTerm, .int .i64 m.commit, .bool m.ok, .slice A n c, .slice A2 n2 c2, .slice A3 n3 c3]) :=
    ⟨A, n, c, A2, n2, c2, A3, n3, c3, rfl, hE, hI, hD⟩
  clear hL hs hr h6 h7 hB hE hI hD ho hc
  go_enter Try.func59, Try.ntmps59
  go_upto_region 1 with fail
  go_cut [] (fun wx => Hid (Below w.heap.size w wx ∧ Blk wx w.heap.size 48 [.int .i64 m.kind, .int .i64 r.group, .int .i64 r.id, .int .i64 m.to_, .int .i64 r.term, .int .i64 m.index, .int .i64 m.logTerm, .int .i64 m.commit, .bool m.ok, .slice A n c, .slice A2 n2 c2, .slice A3 n3 c3]))
  case first =>
    have hne : b ≠ w.heap.size := by omega
    have hne' : w.heap.size ≠ b := by omega
    have k0 : ∀ c : List Value, Blk (w.alloc (.cells c.toArray 48)) w.heap.size 48 c := fun c => Blk.new w 48 c
    have hb0 : ∀ x, Below w.heap.size w (w.alloc x) := fun x => (Below.refl _ _).alloc (Nat.le_refl _) _
    have HK := Lib.hid (And.intro k0 hb0)
    clear k0 hb0
    go_region_held3 (fun w' : World => w'.cell? ⟨b, 0, none⟩ = some (.int .i64 r.group) ∧ w'.cell? ⟨b, 1, none⟩ = some (.int .i64 r.id) ∧ w'.cell? ⟨b, 2, none⟩ = some (.int .i64 r.term)) (first | (simp [go_sem, *]; done)) (fail)
    all_goals
      go_wp2
      go_meet
      refine ⟨?_, ?_⟩
      · exact (HK.out.2 _).drew
      · exact (HK.out.1 _).drew
  case rest =>
    obtain ⟨hbc, hBc⟩ := hcut.out
    clear hcut
    have hfb : ∀ i, wc.frozen? ⟨b, i, none⟩ = false := fun i => (hbc.frozen (p := ⟨b, i, none⟩) hlt).trans (hfr i)
    have k27 : wc.cell? ⟨b, 27, none⟩ = some (.slice Ao no co) := (hbc.cell (p := ⟨b, 27, none⟩) hlt).trans c27
    have kc := hBc.cells
    have hltc : b < wc.heap.size := Nat.lt_of_lt_of_le hlt hbc.size
    have hgc := hBc.lt
    have HS := Lib.hid (send_step h hw hk hkl hbc hlen { m with group := r.group, from_ := r.id, term := r.term } HM.out c27)
    clear c27 c0 c1 c2' hfr hBc
    go_wp2
    go_region_law ((refine step_append_ex rfl (.tmp 23) (.tmp 25) 39 rfl _ _ _ rfl rfl HS.out ?_; rintro v1 w1 ⟨A7, n7, c7, rfl, hl1, f1, k1, HF⟩))
    all_goals
      go_wp2
      go_returns
      exact ⟨⟨_, rfl⟩, HF.out⟩

end Go.Proofs.Ytibkmhacpodceaa

/- Walks: follow, hear, what a node tells, majority. -/
namespace Go.Proofs.Ytibkmhacpodceaa
open Go.RowKit

theorem RaftAt.v6 {o : Own} {kr kl : Nat} {w : World} {b : Nat} {r : RaftM} (h : RaftAt o kr kl w b r) : r.votes.length = 6 := by
  obtain ⟨_, _, _, _, _, _, _, _, _, _, _, _, h6, _⟩ := h; exact h6
theorem RaftAt.o6 {o : Own} {kr kl : Nat} {w : World} {b : Nat} {r : RaftM} (h : RaftAt o kr kl w b r) : r.others.length = 6 := by
  obtain ⟨_, _, _, _, _, _, _, _, _, _, _, _, _, h7⟩ := h; exact h7
theorem RaftAt.below {o : Own} {kr kl : Nat} {w w1 : World} {b : Nat} {r : RaftM} (h : RaftAt o kr kl w b r) (hb : Below w.heap.size w w1) (hw : Wf o w) : RaftAt o kr kl w1 b r :=
  h.ext (Ext.of_below (S := []) hb hw) (by simp) (by simp) (by simp)
theorem RaftAt.drew {o : Own} {kr kl : Nat} {w : World} {b : Nat} {r : RaftM} (h : RaftAt o kr kl w b r) : RaftAt o kr kl w.drew b r := h
theorem RaftAt.drewN {o : Own} {kr kl : Nat} {w : World} {b : Nat} {r : RaftM} (h : RaftAt o kr kl w b r) (n : Nat) : RaftAt o kr kl (w.drewN n) b r := by
  obtain ⟨lb, A, n0, c, A2, n2, c2, hb, ho, hL, hs, hr, h6, h7⟩ := h
  have hst : ∀ B : Nat → Prop, Stays B B w (w.drewN n) := fun B => (Stays.refl B w).drewN n
  obtain ⟨A', n', c', A2', n2', c2', hb', ho', hm', hr'⟩ := hL
  exact ⟨lb, A, n0, c, A2, n2, c2, hb.same rfl, ho, ⟨A', n', c', A2', n2', c2', hb'.same rfl, ho', IntsAt.stays hm' (hst _), hr'.stays (hst _) fun _ _ => EntR.stays (hst _)⟩, BytesAt.stays hs (hst _), hr.stays (hst _) fun _ _ => MsgR.stays (hst _), h6, h7⟩

def FieldIs (o : Own) (kr kl : Nat) (b : Nat) (r : RaftM) (w : World) (e : Ending) (w' : World) : Prop := (∃ v, e = .returned v) ∧ RaftAt o kr kl w' b r ∧ Ext [kr] o o w w'

set_option maxHeartbeats 1000000 in
theorem follow38 (o : Own) (kr kl : Nat) (b : Nat) (r : RaftM) (t : Int) (w : World) (h : RaftAt o kr kl w b r) (hk : kr ≠ 0) (hkl : kr ≠ kl) :
    Calls Try.prog 38 #[.pointer (some ⟨b, 0, none⟩), .int .i64 t] w (FieldIs o kr kl b (r.follow t) w) := by
  obtain ⟨lb, As, ns, cs, Ao, no, co, hc, ho, hL, hs, hr, h6, h7, hB⟩ := h.open_
  obtain ⟨c0, c1, c2, c3, c4, c5, c6, c7, c8, c27, f, hlt⟩ := hc
  have H := Lib.hid (And.intro h (And.intro h6 h7))
  clear h hL hs hr h6 h7 hB c0 c1 c4 c5 c27
  by_cases ht : r.term < t
  · have HF : Hid (r.follow t = { r with term := t, vote := 0, role := 1, leader := 0 }) := by unfold Hid RaftM.follow; rw [if_pos ht]
    go_enter Try.func38, Try.ntmps38
    go_wp2
    go_returns
    have g1 := H.out.1.field hk hkl (r' := { r with term := t }) 2 (.int .i64 t) (fun _ _ _ => rfl) rfl rfl rfl H.out.2.1 H.out.2.2
    have g2 := g1.1.field hk hkl (r' := { r with term := t, vote := 0 }) 3 (.int .i64 0) (fun _ _ _ => rfl) rfl rfl rfl H.out.2.1 H.out.2.2
    have g3 := g2.1.field hk hkl (r' := { r with term := t, vote := 0, role := 1 }) 6 (.int .i64 1) (fun _ _ _ => rfl) rfl rfl rfl H.out.2.1 H.out.2.2
    have g4 := g3.1.field hk hkl (r' := { r with term := t, vote := 0, role := 1, leader := 0 }) 7 (.int .i64 0) (fun _ _ _ => rfl) rfl rfl rfl H.out.2.1 H.out.2.2
    refine ⟨⟨_, rfl⟩, by rw [HF.out]; exact g4.1, ((g1.2.trans g2.2).trans g3.2).trans g4.2⟩
  · have HF : Hid (r.follow t = { r with role := 1, leader := 0 }) := by unfold Hid RaftM.follow; rw [if_neg ht]
    go_enter Try.func38, Try.ntmps38
    go_wp2
    go_returns
    have g3 := H.out.1.field hk hkl (r' := { r with role := 1 }) 6 (.int .i64 1) (fun _ _ _ => rfl) rfl rfl rfl H.out.2.1 H.out.2.2
    have g4 := g3.1.field hk hkl (r' := { r with role := 1, leader := 0 }) 7 (.int .i64 0) (fun _ _ _ => rfl) rfl rfl rfl H.out.2.1 H.out.2.2
    exact ⟨⟨_, rfl⟩, by rw [HF.out]; exact g4.1, g3.2.trans g4.2⟩

def HearIs (o : Own) (kr kl : Nat) (b : Nat) (r : RaftM) (f : Int) (w : World) (e : Ending) (w' : World) : Prop :=
  (r.role = 3 ∧ e = .returned (.bool false) ∧ w' = w) ∨ (r.role ≠ 3 ∧ e = .returned (.bool true) ∧ RaftAt o kr kl w' b (r.hear f) ∧ Ext [kr] o o w w')

set_option maxHeartbeats 1000000 in
theorem hear71 (o : Own) (kr kl : Nat) (b : Nat) (r : RaftM) (t : Int) (w : World) (h : RaftAt o kr kl w b r) (hk : kr ≠ 0) (hkl : kr ≠ kl) :
    Calls Try.prog 71 #[.pointer (some ⟨b, 0, none⟩), .int .i64 t] w (HearIs o kr kl b r t w) := by
  obtain ⟨lb, As, ns, cs, Ao, no, co, hc, ho, hL, hs, hr, h6, h7, hB⟩ := h.open_
  obtain ⟨c0, c1, c2, c3, c4, c5, c6, c7, c8, c27, f, hlt⟩ := hc
  have H := Lib.hid (And.intro h (And.intro h6 h7))
  clear h hL hs hr h6 h7 hB c0 c1 c2 c3 c4 c5 c27
  by_cases ht : r.role = 3
  · have ht' : (r.role == 3) = true := by simpa using ht
    have HT := Lib.hid ht
    clear ht
    go_enter Try.func71, Try.ntmps71
    go_wp2
    go_returns
    exact .inl ⟨HT.out, rfl, rfl⟩
  · have ht' : (r.role == 3) = false := by simpa using ht
    have HT := Lib.hid ht
    clear ht
    go_enter Try.func71, Try.ntmps71
    go_wp2
    go_returns
    have g1 := H.out.1.field hk hkl (r' := { r with role := 1 }) 6 (.int .i64 1) (fun _ _ _ => rfl) rfl rfl rfl H.out.2.1 H.out.2.2
    have g2 := g1.1.field hk hkl (r' := { r with role := 1, leader := t }) 7 (.int .i64 t) (fun _ _ _ => rfl) rfl rfl rfl H.out.2.1 H.out.2.2
    have g3 := g2.1.field hk hkl (r' := { r with role := 1, leader := t, elapsed := 0 }) 8 (.int .i64 0) (fun _ _ _ => rfl) rfl rfl rfl H.out.2.1 H.out.2.2
    exact .inr ⟨HT.out, rfl, g3.1, (g1.2.trans g2.2).trans g3.2⟩

set_option maxHeartbeats 400000 in
theorem role11 (o : Own) (kr kl : Nat) (b : Nat) (r : RaftM) (w : World) (h : RaftAt o kr kl w b r) : Calls Try.prog 11 #[.pointer (some ⟨b, 0, none⟩)] w fun e w' => e = .returned (.int .i64 r.role) ∧ w' = w := by
  obtain ⟨lb, As, ns, cs, Ao, no, co, ⟨c0, c1, c2, c3, c4, c5, c6, c7, c8, c27, f, hlt⟩, _⟩ := h.open_
  go_enter Try.func11, Try.ntmps11
  go_wp2
  go_ret
  exact ⟨rfl, rfl⟩
set_option maxHeartbeats 400000 in
theorem term20 (o : Own) (kr kl : Nat) (b : Nat) (r : RaftM) (w : World) (h : RaftAt o kr kl w b r) : Calls Try.prog 20 #[.pointer (some ⟨b, 0, none⟩)] w fun e w' => e = .returned (.int .i64 r.term) ∧ w' = w := by
  obtain ⟨lb, As, ns, cs, Ao, no, co, ⟨c0, c1, c2, c3, c4, c5, c6, c7, c8, c27, f, hlt⟩, _⟩ := h.open_
  go_enter Try.func20, Try.ntmps20
  go_wp2
  go_ret
  exact ⟨rfl, rfl⟩
set_option maxHeartbeats 400000 in
theorem vote21 (o : Own) (kr kl : Nat) (b : Nat) (r : RaftM) (w : World) (h : RaftAt o kr kl w b r) : Calls Try.prog 21 #[.pointer (some ⟨b, 0, none⟩)] w fun e w' => e = .returned (.int .i64 r.vote) ∧ w' = w := by
  obtain ⟨lb, As, ns, cs, Ao, no, co, ⟨c0, c1, c2, c3, c4, c5, c6, c7, c8, c27, f, hlt⟩, _⟩ := h.open_
  go_enter Try.func21, Try.ntmps21
  go_wp2
  go_ret
  exact ⟨rfl, rfl⟩

set_option maxHeartbeats 400000 in
theorem state22 (o : Own) (kr kl : Nat) (b : Nat) (r : RaftM) (w : World) (h : RaftAt o kr kl w b r) (hl : r.state.length ≤ 30000) : Calls Try.prog 22 #[.pointer (some ⟨b, 0, none⟩)] w (CloneBytes r.state w) := by
  obtain ⟨lb, As, ns, cs, Ao, no, co, ⟨c0, c1, c2, c3, c4, c5, c6, c7, c8, c27, f, hlt⟩, ho, hL, hs, _⟩ := h.open_
  go_enter Try.func22, Try.ntmps22
  go_wp2_with fail
  refine (clone32 _ _ _ w hs hl).mono ?_
  rintro e w1 ⟨v1, rfl, h1, h2⟩
  go_wp2
  go_ret
  exact ⟨_, rfl, h1, h2⟩
end Go.Proofs.Ytibkmhacpodceaa

/- Walks: majority with its two closures. -/
namespace Go.Proofs.Ytibkmhacpodceaa
open Go.RowKit

def Copy14 (o : Own) (kl : Nat) (L : LogM) (w : World) (e : Ending) (w' : World) : Prop := CopyIs o kl L w e w'
set_option maxHeartbeats 400000 in
theorem log14 (o : Own) (kr kl : Nat) (b : Nat) (r : RaftM) (w : World) (h : RaftAt o kr kl w b r) (hl : r.log.sM.length ≤ 30000) (hw : Wf o w) : Calls Try.prog 14 #[.pointer (some ⟨b, 0, none⟩)] w (CopyIs o kl r.log w) := by
  obtain ⟨lb, As, ns, cs, Ao, no, co, ⟨c0, c1, c2, c3, c4, c5, c6, c7, c8, c27, f, hlt⟩, ho, hL, hs, _⟩ := h.open_
  go_enter Try.func14, Try.ntmps14
  go_wp2_with fail
  refine (copy31 o kl lb r.log w hL hl hw).mono ?_
  rintro e w1 ⟨b1, o1, rfl, h1, h2⟩
  go_wp2
  go_ret
  exact ⟨_, _, rfl, h1, h2⟩

theorem voted_cell {o : Own} {kr kl : Nat} {w : World} {b : Nat} {r : RaftM} (h : RaftAt o kr kl w b r) (q : Int) (h0 : 1 ≤ q) (h1 : q ≤ 5) : w.cell? ⟨b, 9 + q.toNat, none⟩ = some (.bool (r.voted q)) := by
  obtain ⟨lb, As, ns, cs, Ao, no, co, hc, ho, hL, hs, hr, h6, h7, hB⟩ := h.open_
  exact (hB.cells _).trans (raftCells_vote h6 q.toNat (by omega))
theorem match_cell {o : Own} {kr kl : Nat} {w : World} {b : Nat} {r : RaftM} (h : RaftAt o kr kl w b r) (q : Int) (h0 : 1 ≤ q) (h1 : q ≤ 5) : w.cell? ⟨b, 15 + q.toNat * 2 + 1, none⟩ = some (.int .i64 (r.match_ q)) := by
  obtain ⟨lb, As, ns, cs, Ao, no, co, hc, ho, hL, hs, hr, h6, h7, hB⟩ := h.open_
  exact (hB.cells _).trans (raftCells_match h6 h7 q.toNat (by omega))
theorem next_cell {o : Own} {kr kl : Nat} {w : World} {b : Nat} {r : RaftM} (h : RaftAt o kr kl w b r) (q : Int) (h0 : 1 ≤ q) (h1 : q ≤ 5) : w.cell? ⟨b, 15 + q.toNat * 2, none⟩ = some (.int .i64 (r.next q)) := by
  obtain ⟨lb, As, ns, cs, Ao, no, co, hc, ho, hL, hs, hr, h6, h7, hB⟩ := h.open_
  exact (hB.cells _).trans (raftCells_next h6 h7 q.toNat (by omega))

set_option maxHeartbeats 1000000 in
theorem elected68 (o : Own) (kr kl : Nat) (b p : Nat) (r : RaftM) (q : Int) (w : World) (h : RaftAt o kr kl w b r) (hp : w.cell? ⟨p, 0, none⟩ = some (.pointer (some ⟨b, 0, none⟩))) (h0 : 1 ≤ q) (h1 : q ≤ 5) :
    Calls Try.prog 68 #[.int .i64 q, .pointer (some ⟨p, 0, none⟩)] w fun e w' => e = .returned (.bool (r.voted q)) ∧ Below w.heap.size w w' := by
  have hq := voted_cell h q h0 h1
  have hlt : b < w.heap.size := h.open_.choose_spec.choose_spec.choose_spec.choose_spec.choose_spec.choose_spec.choose_spec.1.lt
  go_enter Try.func68, Try.ntmps68
  go_wp2
  go_ret
  exact ⟨rfl, Below.refl _ _⟩

set_option maxHeartbeats 1000000 in
theorem commit85 (o : Own) (kr kl : Nat) (b p p2 : Nat) (r : RaftM) (q n : Int) (w : World) (h : RaftAt o kr kl w b r) (hp : w.cell? ⟨p, 0, none⟩ = some (.pointer (some ⟨b, 0, none⟩))) (hp2 : w.cell? ⟨p2, 0, none⟩ = some (.int .i64 n)) (h0 : 1 ≤ q) (h1 : q ≤ 5) :
    Calls Try.prog 85 #[.int .i64 q, .pointer (some ⟨p, 0, none⟩), .pointer (some ⟨p2, 0, none⟩)] w fun e w' => e = .returned (.bool (decide (n ≤ r.match_ q))) ∧ Below w.heap.size w w' := by
  have hq := match_cell h q h0 h1
  have hlt : b < w.heap.size := h.open_.choose_spec.choose_spec.choose_spec.choose_spec.choose_spec.choose_spec.choose_spec.1.lt
  go_enter Try.func85, Try.ntmps85
  go_wp2
  go_quiet (fail)
  go_wp2
  go_ret
  exact ⟨rfl, below_drewN (Below.refl _ _) _⟩
-- MAJORITY
set_option maxHeartbeats 2000000 in
theorem majority67v (o : Own) (kr kl : Nat) (b p : Nat) (r : RaftM)  (w : World) (h : RaftAt o kr kl w b r) (hok : r.log.Ok) (hmem : ∀ q, q ∈ r.log.members → 1 ≤ q ∧ q ≤ 5) (hml : r.log.members.length ≤ 5) (hw : Wf o w) (hp : w.cell? ⟨p, 0, none⟩ = some (.pointer (some ⟨b, 0, none⟩))) :
    Calls Try.prog 67 #[.pointer (some ⟨b, 0, none⟩), .func (.func 68) #[] #[.pointer (some ⟨p, 0, none⟩)]] w fun e w' => e = .returned (.bool (r.majority r.voted)) ∧ Below w.heap.size w w' := by
  obtain ⟨lb, As, ns, cs, Ao, no, co, ⟨c0, c1, c2, c3, c4, c5, c6, c7, c8, c27, f, hlt⟩, ho, hL, hs, _⟩ := h.open_
  have hcall : ∀ (q : Int) (wr : World), 1 ≤ q → q ≤ 5 → Below w.heap.size w wr → Calls Try.prog 68 #[.int .i64 q, .pointer (some ⟨p, 0, none⟩)] wr fun e w' => e = .returned (.bool (r.voted q)) ∧ Below wr.heap.size wr w' := by
    intro q wr h0 h1 hb
    exact elected68 o kr kl b p r q wr (h.below hb hw) ((hb.cell (p := ⟨p, 0, none⟩) (World.block_lt_of_cell? _ _ hp)).trans hp) h0 h1
  have HCALL := Lib.hid hcall
  have HM := Lib.hid hmem
  have HMAJ : Hid (r.majority r.voted = decide (r.log.members.length < 2 * countP r.voted r.log.members)) := rfl
  clear hcall hmem hp c0 c1 c2 c3 c5 c6 c7 c8 c27
  generalize hqe : r.voted = is at *
  go_enter Try.func67, Try.ntmps67
  go_wp2_with fail
  refine (members17 o kl lb r.log w hL hok).mono ?_
  rintro e w1 ⟨A, n, c, rfl, hI, hb1⟩
  have hn := hI.len.1
  have HN := Lib.hid hn
  have hn5 : n ≤ 5 := by omega
  clear hn
  go_wp2
  go_loopw [16, 6] (fun i z wr => ∃ k : Nat, k ≤ n ∧ i = .int .i64 k ∧ z = .int .i64 (countP is (r.log.members.take k)) ∧ countP is (r.log.members.take k) ≤ k ∧ Below w.heap.size w wr ∧ Below w1.heap.size w1 wr) (fun i _ _ => n - (intOf i).toNat)
  case atStart => exact ⟨0, Nat.zero_le _, rfl, by simp [countP], by simp [countP], hb1, Below.refl _ _⟩
  case round =>
    obtain ⟨k, hk, rfl, rfl, hcl, hb, hb1r⟩ := hrel
    by_cases hlt2 : k < n
    · obtain ⟨x, hx⟩ : ∃ x, r.log.members[k]? = some x := ⟨_, List.getElem?_eq_getElem (by have := HN.out; omega)⟩
      obtain ⟨g, off, rfl, hg, k0⟩ := IntsAt.at? (IntsAt.stays hI (Stays.of_below hb1r)) hx
      have HX := Lib.hid hx
      have hxm := HM.out x (List.mem_of_getElem? hx)
      have HC := Lib.hid (HCALL.out x wr hxm.1 hxm.2 hb)
      clear hx
      have HT : Hid (countP is (r.log.members.take (k + 1)) = countP is (r.log.members.take k) + if is x then 1 else 0) := by
        obtain ⟨hk', hxe⟩ := List.getElem?_eq_some_iff.1 HX.out
        unfold Hid countP
        rw [List.take_succ_eq_append_getElem hk', List.filter_append, List.length_append, hxe]
        by_cases hq : is x <;> simp [hq]
      generalize countP is (r.log.members.take k) = cnt at *
      cases hq : is x
      · rw [hq] at HC HT
        clear hq
        go_wp2_with fail
        refine HC.out.mono ?_
        rintro e w2 ⟨rfl, hb2⟩
        go_wp2
        go_roundw
        case rel => exact ⟨k + 1, by omega, by go_num, by rw [HT.out]; simp, by rw [HT.out]; simp; omega, hb.trans (hb2.mono hb.size), hb1r.trans (hb2.mono hb1r.size)⟩
        case measure => simp [intOf]; omega
      · rw [hq] at HC HT
        clear hq
        go_wp2_with fail
        refine HC.out.mono ?_
        rintro e w2 ⟨rfl, hb2⟩
        go_wp2
        go_roundw
        case rel => exact ⟨k + 1, by omega, by go_num, by rw [HT.out]; simp, by rw [HT.out]; simp; omega, hb.trans (hb2.mono hb.size), hb1r.trans (hb2.mono hb1r.size)⟩
        case measure => simp [intOf]; omega
    · obtain rfl : k = n := by omega
      have HE : Hid (r.log.members.take k = r.log.members) := List.take_of_length_le (by rw [← HN.out]; exact Nat.le_refl _)
      rw [HE.out] at hcl ⊢
      have HL : Hid (r.majority is = decide (k < 2 * countP is r.log.members)) := by unfold Hid; rw [HMAJ.out, HN.out]
      generalize countP is r.log.members = cnt at *
      go_wp2
      go_ret
      refine ⟨ret_bool ?_, hb⟩
      rw [HL.out]
      simp only [decide_eq_decide]
      omega

set_option maxHeartbeats 2000000 in
theorem majority67c (o : Own) (kr kl : Nat) (b p p2 : Nat) (r : RaftM) (n : Int) (w : World) (h : RaftAt o kr kl w b r) (hok : r.log.Ok) (hmem : ∀ q, q ∈ r.log.members → 1 ≤ q ∧ q ≤ 5) (hml : r.log.members.length ≤ 5) (hw : Wf o w) (hp : w.cell? ⟨p, 0, none⟩ = some (.pointer (some ⟨b, 0, none⟩))) (hp2 : w.cell? ⟨p2, 0, none⟩ = some (.int .i64 n)) :
    Calls Try.prog 67 #[.pointer (some ⟨b, 0, none⟩), .func (.func 85) #[] #[.pointer (some ⟨p, 0, none⟩), .pointer (some ⟨p2, 0, none⟩)]] w fun e w' => e = .returned (.bool (r.majority (fun q => decide (n ≤ r.match_ q)))) ∧ Below w.heap.size w w' := by
  obtain ⟨lb, As, ns, cs, Ao, no, co, ⟨c0, c1, c2, c3, c4, c5, c6, c7, c8, c27, f, hlt⟩, ho, hL, hs, _⟩ := h.open_
  have hcall : ∀ (q : Int) (wr : World), 1 ≤ q → q ≤ 5 → Below w.heap.size w wr → Calls Try.prog 85 #[.int .i64 q, .pointer (some ⟨p, 0, none⟩), .pointer (some ⟨p2, 0, none⟩)] wr fun e w' => e = .returned (.bool ((fun q => decide (n ≤ r.match_ q)) q)) ∧ Below wr.heap.size wr w' := by
    intro q wr h0 h1 hb
    exact commit85 o kr kl b p p2 r q n wr (h.below hb hw) ((hb.cell (p := ⟨p, 0, none⟩) (World.block_lt_of_cell? _ _ hp)).trans hp) ((hb.cell (p := ⟨p2, 0, none⟩) (World.block_lt_of_cell? _ _ hp2)).trans hp2) h0 h1
  have HCALL := Lib.hid hcall
  have HM := Lib.hid hmem
  have HMAJ : Hid (r.majority (fun q => decide (n ≤ r.match_ q)) = decide (r.log.members.length < 2 * countP (fun q => decide (n ≤ r.match_ q)) r.log.members)) := rfl
  clear hcall hmem hp hp2 c0 c1 c2 c3 c5 c6 c7 c8 c27
  generalize hqe : (fun q => decide (n ≤ r.match_ q)) = is at *
  go_enter Try.func67, Try.ntmps67
  go_wp2_with fail
  refine (members17 o kl lb r.log w hL hok).mono ?_
  rintro e w1 ⟨A, nn, c, rfl, hI, hb1⟩
  have hn := hI.len.1
  have HN := Lib.hid hn
  have hn5 : nn ≤ 5 := by omega
  clear hn
  go_wp2
  go_loopw [16, 6] (fun i z wr => ∃ k : Nat, k ≤ nn ∧ i = .int .i64 k ∧ z = .int .i64 (countP is (r.log.members.take k)) ∧ countP is (r.log.members.take k) ≤ k ∧ Below w.heap.size w wr ∧ Below w1.heap.size w1 wr) (fun i _ _ => nn - (intOf i).toNat)
  case atStart => exact ⟨0, Nat.zero_le _, rfl, by simp [countP], by simp [countP], hb1, Below.refl _ _⟩
  case round =>
    obtain ⟨k, hk, rfl, rfl, hcl, hb, hb1r⟩ := hrel
    by_cases hlt2 : k < nn
    · obtain ⟨x, hx⟩ : ∃ x, r.log.members[k]? = some x := ⟨_, List.getElem?_eq_getElem (by have := HN.out; omega)⟩
      obtain ⟨g, off, rfl, hg, k0⟩ := IntsAt.at? (IntsAt.stays hI (Stays.of_below hb1r)) hx
      have HX := Lib.hid hx
      have hxm := HM.out x (List.mem_of_getElem? hx)
      have HC := Lib.hid (HCALL.out x wr hxm.1 hxm.2 hb)
      clear hx
      have HT : Hid (countP is (r.log.members.take (k + 1)) = countP is (r.log.members.take k) + if is x then 1 else 0) := by
        obtain ⟨hk', hxe⟩ := List.getElem?_eq_some_iff.1 HX.out
        unfold Hid countP
        rw [List.take_succ_eq_append_getElem hk', List.filter_append, List.length_append, hxe]
        by_cases hq : is x <;> simp [hq]
      generalize countP is (r.log.members.take k) = cnt at *
      cases hq : is x
      · rw [hq] at HC HT
        clear hq
        go_wp2_with fail
        refine HC.out.mono ?_
        rintro e w2 ⟨rfl, hb2⟩
        go_wp2
        go_roundw
        case rel => exact ⟨k + 1, by omega, by go_num, by rw [HT.out]; simp, by rw [HT.out]; simp; omega, hb.trans (hb2.mono hb.size), hb1r.trans (hb2.mono hb1r.size)⟩
        case measure => simp [intOf]; omega
      · rw [hq] at HC HT
        clear hq
        go_wp2_with fail
        refine HC.out.mono ?_
        rintro e w2 ⟨rfl, hb2⟩
        go_wp2
        go_roundw
        case rel => exact ⟨k + 1, by omega, by go_num, by rw [HT.out]; simp, by rw [HT.out]; simp; omega, hb.trans (hb2.mono hb.size), hb1r.trans (hb2.mono hb1r.size)⟩
        case measure => simp [intOf]; omega
    · obtain rfl : k = nn := by omega
      have HE : Hid (r.log.members.take k = r.log.members) := List.take_of_length_le (by rw [← HN.out]; exact Nat.le_refl _)
      rw [HE.out] at hcl ⊢
      have HL : Hid (r.majority is = decide (k < 2 * countP is r.log.members)) := by unfold Hid; rw [HMAJ.out, HN.out]
      generalize countP is r.log.members = cnt at *
      go_wp2
      go_ret
      refine ⟨ret_bool ?_, hb⟩
      rw [HL.out]
      simp only [decide_eq_decide]
      omega

end Go.Proofs.Ytibkmhacpodceaa

/- Walks: sendTo. -/
namespace Go.Proofs.Ytibkmhacpodceaa
open Go.RowKit

/-- bounds of what a node holds -/
structure RaftM.Ok (r : RaftM) : Prop where
  log : r.log.Ok
  id0 : 1 ≤ r.id
  id1 : r.id ≤ 5
  t0 : 0 ≤ r.term
  t1 : r.term ≤ 20000
  mem : ∀ q, q ∈ r.log.members → 1 ≤ q ∧ q ≤ 5
  mlen : r.log.members.length ≤ 5
  next0 : ∀ q, 0 ≤ r.next q
  next1 : ∀ q, r.next q ≤ 60000
  match0 : ∀ q, 0 ≤ r.match_ q
  match1 : ∀ q, r.match_ q ≤ 60000
  state : r.state.length ≤ 100
  e0 : 0 ≤ r.elapsed
  e1 : r.elapsed ≤ 20000


theorem termVal_getD (L : LogM) (i : Int) : (L.termAt i).getD 0 = termVal L i := by
  cases h : L.termAt i with
  | none => rw [(termCode_none h).2]; rfl
  | some t => rw [(termCode_some h).2]; rfl

set_option maxHeartbeats 4000000 in
theorem sendTo56 (o : Own) (kr kl : Nat) (b : Nat) (r : RaftM) (q : Int) (w : World) (h : RaftAt o kr kl w b r) (hok : r.Ok) (hw : Wf o w) (hk : kr ≠ 0) (hkl : kr ≠ kl) (hlen : r.out.length ≤ 50000) (hq0 : 1 ≤ q) (hq1 : q ≤ 5) :
    Calls Try.prog 56 #[.pointer (some ⟨b, 0, none⟩), .int .i64 q] w (SendIs o kr kl b (r.sendTo q) w) := by
  have H := Lib.hid h
  have HOK := Lib.hid hok
  have hnx := next_cell h q hq0 hq1
  obtain ⟨lb, As, ns, cs, Ao, no, co, ⟨c0, c1, c2, c3, c4, c5, c6, c7, c8, c27, f, hlt⟩, ho, hL, hs, _⟩ := h.open_
  have HL := Lib.hid hL
  have HS := Lib.hid hs
  have hst : r.state.length ≤ 30000 := by have := hok.state; omega
  have n0 := hok.next0 q
  have n1' := hok.next1 q
  have s0 := hok.log.i0
  have hsm : r.log.sM.length ≤ 30000 := by have := hok.log.mlen; omega
  by_cases hlo : r.next q - 1 < r.log.sI
  · have HSEND : Hid (r.sendTo q = r.send { kind := 5, to_ := q, index := r.log.sI, logTerm := r.log.sT, members := r.log.sM, data := r.state }) := by unfold Hid RaftM.sendTo; rw [if_pos hlo]
    generalize r.next q = nx at *
    clear h hok hL hs
    go_enter Try.func56, Try.ntmps56
    go_wp2_with fail
    refine (start23 o kl lb r.log w HL.out hsm).mono ?_
    rintro e w1 ⟨A1, n1, e1, rfl, hI1, hb1⟩
    have HI1 := Lib.hid hI1
    clear hI1
    go_wp2
    refine (fun (HH : ∀ W : World, Below w.heap.size w W → Blk W w1.heap.size 60 [.int .i64 r.log.sI, .int .i64 r.log.sT, .slice A1 n1 e1] → IntsAt (From w.heap.size) W (.slice A1 n1 e1) r.log.sM → Code.wp Try.prog _ _ _ W) => HH _ ?_ ?_ ?_) ?_
    · exact hb1.alloc hb1.size _
    · exact Blk.new w1 60 _
    · exact IntsAt.stays HI1.out ((Stays.refl _ w1).alloc _)
    intro W hbw hBX hIW
    have kW := hBX.cells
    have fW := hBX.frozens
    have hgW := hBX.lt
    have hbwD : Below w.heap.size w W.drew := hbw.drew
    have hWs : w.heap.size ≤ W.heap.size := hbw.size
    have hbW : b < W.heap.size := Nat.lt_of_lt_of_le hlt hWs
    have kW5 : W.cell? ⟨b, 5, none⟩ = some (.slice As ns cs) := (hbw.cell (p := ⟨b, 5, none⟩) hlt).trans c5
    have HST := Lib.hid (BytesAt.stays HS.out (Stays.of_below hbwD))
    have HRW := Lib.hid (H.out.below hbwD hw)
    have HWW : Hid (Wf o W.drew) := fun b hb => hw b (Nat.le_trans hWs hb)
    have HIW : Hid (IntsAt (Of o 0) W.drew (.slice A1 n1 e1) r.log.sM) := IntsAt.stays hIW (((Stays.refl _ W).drew).trans (Stays.weak _ fun b hb => hw b hb))
    clear hBX hIW HI1 hnx c0 c1 c2 c3 c4 c6 c7 c8 c27
    -- BLOCK snap
    have hS : (fun w' : World => (∀ i, w'.cell? ⟨w1.heap.size, i, none⟩ = [.int .i64 r.log.sI, .int .i64 r.log.sT, .slice A1 n1 e1][i]?) ∧ w'.cell? ⟨b, 5, none⟩ = some (.slice As ns cs)) W.drew := ⟨kW, kW5⟩
    refine wp_region_T 14 (fun w' : World => (∀ i, w'.cell? ⟨w1.heap.size, i, none⟩ = [.int .i64 r.log.sI, .int .i64 r.log.sT, .slice A1 n1 e1][i]?) ∧ w'.cell? ⟨b, 5, none⟩ = some (.slice As ns cs)) (by kernel_rfl) ?_
    refine anyT_takeL (i := 0) (v := ?vs0) rfl (by kernel_rfl) (by kernel_rfl) (by kernel_rfl) (by kernel_rfl) (by kernel_rfl) (fun _ _ _ h => h) (Or.inl ⟨by rfl, fun wS hSw => ?hys0⟩) hS ?res0
    case hys0 => (dsimp only at hSw; obtain ⟨hS1, hS2⟩ := hSw; go_simp; try with_reducible rfl)
    try simp only [Act.put, List.setIfInBounds_toArray, List.set_cons_zero, List.set_cons_succ]
    refine anyT_takeL (i := 1) (v := ?vs1) rfl (by kernel_rfl) (by kernel_rfl) (by kernel_rfl) (by kernel_rfl) (by kernel_rfl) (fun _ _ _ h => h) (Or.inl ⟨by rfl, fun wS hSw => ?hys1⟩) hS ?res1
    case hys1 => (dsimp only at hSw; obtain ⟨hS1, hS2⟩ := hSw; go_simp; try with_reducible rfl)
    try simp only [Act.put, List.setIfInBounds_toArray, List.set_cons_zero, List.set_cons_succ]
    refine anyT_takeL (i := 2) (v := ?vs2) rfl (by kernel_rfl) (by kernel_rfl) (by kernel_rfl) (by kernel_rfl) (by kernel_rfl) (fun _ _ _ h => h) (Or.inl ⟨by rfl, fun wS hSw => ?hys2⟩) hS ?res2
    case hys2 => (dsimp only at hSw; obtain ⟨hS1, hS2⟩ := hSw; go_simp; try with_reducible rfl)
    try simp only [Act.put, List.setIfInBounds_toArray, List.set_cons_zero, List.set_cons_succ]
    refine anyT_takeL (i := 3) (v := ?vs3) rfl (by kernel_rfl) (by kernel_rfl) (by kernel_rfl) (by kernel_rfl) (by kernel_rfl) (fun _ _ _ h => h) (Or.inl ⟨by rfl, fun wS hSw => ?hys3⟩) hS ?res3
    case hys3 => (dsimp only at hSw; obtain ⟨hS1, hS2⟩ := hSw; go_simp; try with_reducible rfl)
    try simp only [Act.put, List.setIfInBounds_toArray, List.set_cons_zero, List.set_cons_succ]
    refine anyT_takeL (i := 4) (v := ?vs4) rfl (by kernel_rfl) (by kernel_rfl) (by kernel_rfl) (by kernel_rfl) (by kernel_rfl) (fun _ _ _ h => h) (Or.inl ⟨by rfl, fun wS hSw => ?hys4⟩) hS ?res4
    case hys4 => (dsimp only at hSw; obtain ⟨hS1, hS2⟩ := hSw; go_simp; try with_reducible rfl)
    try simp only [Act.put, List.setIfInBounds_toArray, List.set_cons_zero, List.set_cons_succ]
    refine anyT_takeL (i := 5) (v := ?vs5) rfl (by kernel_rfl) (by kernel_rfl) (by kernel_rfl) (by kernel_rfl) (by kernel_rfl) (fun _ _ _ h => h) (Or.inl ⟨by rfl, fun wS hSw => ?hys5⟩) hS ?res5
    case hys5 => (dsimp only at hSw; obtain ⟨hS1, hS2⟩ := hSw; go_simp; try with_reducible rfl)
    try simp only [Act.put, List.setIfInBounds_toArray, List.set_cons_zero, List.set_cons_succ]
    refine anyT_takeL (i := 6) (v := ?vs6) rfl (by kernel_rfl) (by kernel_rfl) (by kernel_rfl) (by kernel_rfl) (by kernel_rfl) (fun _ _ _ h => h) (Or.inl ⟨by rfl, fun wS hSw => ?hys6⟩) hS ?res6
    case hys6 => (dsimp only at hSw; obtain ⟨hS1, hS2⟩ := hSw; go_simp; try with_reducible rfl)
    try simp only [Act.put, List.setIfInBounds_toArray, List.set_cons_zero, List.set_cons_succ]
    refine anyT_takeL (i := 7) (v := ?vs7) rfl (by kernel_rfl) (by kernel_rfl) (by kernel_rfl) (by kernel_rfl) (by kernel_rfl) (fun _ _ _ h => h) (Or.inl ⟨by rfl, fun wS hSw => ?hys7⟩) hS ?res7
    case hys7 => (dsimp only at hSw; obtain ⟨hS1, hS2⟩ := hSw; go_simp; try with_reducible rfl)
    try simp only [Act.put, List.setIfInBounds_toArray, List.set_cons_zero, List.set_cons_succ]
    refine anyT_takeL (i := 8) (v := ?vs8) rfl (by kernel_rfl) (by kernel_rfl) (by kernel_rfl) (by kernel_rfl) (by kernel_rfl) (fun _ _ _ h => h) (Or.inl ⟨by rfl, fun wS hSw => ?hys8⟩) hS ?res8
    case hys8 => (dsimp only at hSw; obtain ⟨hS1, hS2⟩ := hSw; go_simp; try with_reducible rfl)
    try simp only [Act.put, List.setIfInBounds_toArray, List.set_cons_zero, List.set_cons_succ]
    refine anyT_takeL (i := 9) (v := ?vs9) rfl (by kernel_rfl) (by kernel_rfl) (by kernel_rfl) (by kernel_rfl) (by kernel_rfl) (fun _ _ _ h => h) (Or.inl ⟨by rfl, fun wS hSw => ?hys9⟩) hS ?res9
    case hys9 => (dsimp only at hSw; obtain ⟨hS1, hS2⟩ := hSw; go_simp; try with_reducible rfl)
    try simp only [Act.put, List.setIfInBounds_toArray, List.set_cons_zero, List.set_cons_succ]
    refine anyT_takeL (i := 10) (v := ?vs10) rfl (by kernel_rfl) (by kernel_rfl) (by kernel_rfl) (by kernel_rfl) (by kernel_rfl) (fun _ _ _ h => h) (Or.inl ⟨by rfl, fun wS hSw => ?hys10⟩) hS ?res10
    case hys10 => (dsimp only at hSw; obtain ⟨hS1, hS2⟩ := hSw; go_simp; try with_reducible rfl)
    try simp only [Act.put, List.setIfInBounds_toArray, List.set_cons_zero, List.set_cons_succ]
    refine anyT_takeL (i := 11) (v := ?vs11) rfl (by kernel_rfl) (by kernel_rfl) (by kernel_rfl) (by kernel_rfl) (by kernel_rfl) (fun _ _ _ h => h) (Or.inl ⟨by rfl, fun wS hSw => ?hys11⟩) hS ?res11
    case hys11 => (dsimp only at hSw; obtain ⟨hS1, hS2⟩ := hSw; go_simp; try with_reducible rfl)
    try simp only [Act.put, List.setIfInBounds_toArray, List.set_cons_zero, List.set_cons_succ]
    refine anyT_oneL (i := 12) rfl (by kernel_rfl) ?_
    intro K hK
    go_simp
    refine (clone32 _ r.state _ _ HST.out hst).mono ?_
    rintro e w3 ⟨v3, rfl, hD3, hb3⟩
    obtain ⟨A3, c3, rfl, _⟩ := hD3.form
    have hb3' : Below W.drew.heap.size W.drew w3 := hb3
    have kx3 := (keeps hb3' hgW kW fW).1
    have k53 : w3.cell? ⟨b, 5, none⟩ = some (.slice As ns cs) := (hb3'.cell (p := ⟨b, 5, none⟩) hbW).trans kW5
    have hD0 := Lib.hid (BytesAt.stays hD3 (Stays.weak (B' := Of o 0) _ fun b hb => hw _ (Nat.le_trans hWs hb)))
    have hR3 := Lib.hid (HRW.out.below hb3' HWW.out)
    have hI3 := Lib.hid (IntsAt.stays HIW.out (Stays.of_below hb3'))
    have hW3 := Lib.hid (show Wf o w3 from fun b hb => HWW.out b (Nat.le_trans hb3'.size hb))
    have hsz := hb3'.size
    clear hD3 hb3 hS
    dsimp only
    refine hK _ _ (.inr ⟨kx3, k53⟩) ?_
    clear hK K
    try simp only [Act.put, List.setIfInBounds_toArray, List.set_cons_zero, List.set_cons_succ]
    have hS : (fun w' : World => (∀ i, w'.cell? ⟨w1.heap.size, i, none⟩ = [.int .i64 r.log.sI, .int .i64 r.log.sT, .slice A1 n1 e1][i]?) ∧ w'.cell? ⟨b, 5, none⟩ = some (.slice As ns cs)) w3 := ⟨kx3, k53⟩
    refine anyT_takeL (i := 13) (v := ?vs13) rfl (by kernel_rfl) (by kernel_rfl) (by kernel_rfl) (by kernel_rfl) (by kernel_rfl) (fun _ _ _ h => h) (Or.inl ⟨by rfl, fun wS hSw => ?hys13⟩) hS ?res13
    case hys13 => (dsimp only at hSw; obtain ⟨hS1, hS2⟩ := hSw; go_simp; try with_reducible rfl)
    try simp only [Act.put, List.setIfInBounds_toArray, List.set_cons_zero, List.set_cons_succ]
    refine anyT_oneL (i := 14) rfl (by kernel_rfl) ?_
    intro K hK
    go_simp
    refine (send59 o kr kl b r { kind := 5, to_ := q, index := r.log.sI, logTerm := r.log.sT, members := r.log.sM, data := r.state } 0 0 0 none 0 0 A1 n1 e1 A3 _ c3 w3 hR3.out hW3.out hk hkl hlen SliceOf.nil_ hI3.out hD0.out).mono ?_
    rintro e w4 ⟨⟨v4, rfl⟩, o4, h4, he4⟩
    dsimp only
    refine hK _ _ (.inl rfl) ?_
    clear hK K
    try simp only [Act.put, List.setIfInBounds_toArray, List.set_cons_zero, List.set_cons_succ]
    refine anyT_done (by kernel_rfl) ?_ _
    go_wp2
    go_returns
    refine ⟨⟨_, rfl⟩, o4, by rw [HSEND.out]; exact h4, ?_⟩
    exact (Ext.of_below (hbwD.trans (hb3'.mono hWs)) hw).trans he4
    -- END
  · have HSEND : Hid (r.sendTo q = r.send { kind := 3, to_ := q, index := r.next q - 1, logTerm := termVal r.log (r.next q - 1), commit := r.log.commit, entries := r.log.slice (r.next q) 64 }) := by
      unfold Hid RaftM.sendTo; rw [if_neg hlo, termVal_getD, Int.sub_add_cancel]
    have hll := hok.log.len
    have s1 := hok.log.i1
    have HDAT := Lib.hid hok.log.data
    generalize r.next q = nx at *
    clear h hok hL hs
    go_enter Try.func56, Try.ntmps56
    go_wp2_with fail
    refine (start23 o kl lb r.log w HL.out hsm).mono ?_
    rintro e w1 ⟨A1, n1, e1, rfl, hI1, hb1⟩
    have hbA : Below w.heap.size w (w1.alloc (.cells #[.int .i64 r.log.sI, .int .i64 r.log.sT, .slice A1 n1 e1] 60)) := hb1.alloc hb1.size _
    have HL1 := Lib.hid (HL.out.below hbA)
    have kb1 : w1.cell? ⟨b, 4, none⟩ = some (.pointer (some ⟨lb, 0, none⟩)) := (hb1.cell (p := ⟨b, 4, none⟩) hlt).trans c4
    have hlt1 : b < w1.heap.size := Nat.lt_of_lt_of_le hlt hb1.size
    clear hI1
    go_wp2_with fail
    refine (term47 o kl lb r.log _ _ HL1.out hll s0 s1 (by omega) (by omega)).mono ?_
    rintro e w2 ⟨rfl, hb2⟩
    have hbB : Below w.heap.size w w2 := hbA.trans (hb2.mono hbA.size)
    generalize termVal r.log (nx - 1) = tv at *
    generalize termCode r.log (nx - 1) = tc at *
    go_wp2
    refine (fun (HH : ∀ W : World, Below w.heap.size w W → Code.wp Try.prog _ _ _ W) => HH _ ?_) ?_
    · exact hbB
    intro W hbw
    have ewr : IntKind.i64.wrap nx = nx := IntWalk.i64_in _ (by omega)
    have hbwD : Below w.heap.size w W.drew := hbw.drew
    have hWs : w.heap.size ≤ W.heap.size := hbw.size
    have hbW : b < W.heap.size := Nat.lt_of_lt_of_le hlt hWs
    have kW4 : W.cell? ⟨b, 4, none⟩ = some (.pointer (some ⟨lb, 0, none⟩)) := (hbw.cell (p := ⟨b, 4, none⟩) hlt).trans c4
    have HRW := Lib.hid (H.out.below hbwD hw)
    have HLW := Lib.hid (HL.out.below hbwD)
    have HWW : Hid (Wf o W.drew) := fun b hb => hw b (Nat.le_trans hWs hb)
    clear hnx c0 c1 c2 c3 c4 c5 c6 c7 c8 c27
    -- BLOCK app
    have hS : (fun w' : World => w'.cell? ⟨b, 4, none⟩ = some (.pointer (some ⟨lb, 0, none⟩))) W.drew := kW4
    refine wp_region_T 17 (fun w' : World => w'.cell? ⟨b, 4, none⟩ = some (.pointer (some ⟨lb, 0, none⟩))) (by kernel_rfl) ?_
    refine anyT_takeL (i := 0) (v := ?ve0) rfl (by kernel_rfl) (by kernel_rfl) (by kernel_rfl) (by kernel_rfl) (by kernel_rfl) (fun _ _ _ h => h) (Or.inl ⟨by rfl, fun wS hSw => ?hye0⟩) hS ?ree0
    case hye0 => (dsimp only at hSw; obtain hS1 := hSw; go_simp; try with_reducible rfl)
    try simp only [Act.put, List.setIfInBounds_toArray, List.set_cons_zero, List.set_cons_succ]
    refine anyT_takeL (i := 1) (v := ?ve1) rfl (by kernel_rfl) (by kernel_rfl) (by kernel_rfl) (by kernel_rfl) (by kernel_rfl) (fun _ _ _ h => h) (Or.inl ⟨by rfl, fun wS hSw => ?hye1⟩) hS ?ree1
    case hye1 => (dsimp only at hSw; obtain hS1 := hSw; go_simp; try with_reducible rfl)
    try simp only [Act.put, List.setIfInBounds_toArray, List.set_cons_zero, List.set_cons_succ]
    refine anyT_takeL (i := 2) (v := ?ve2) rfl (by kernel_rfl) (by kernel_rfl) (by kernel_rfl) (by kernel_rfl) (by kernel_rfl) (fun _ _ _ h => h) (Or.inl ⟨by rfl, fun wS hSw => ?hye2⟩) hS ?ree2
    case hye2 => (dsimp only at hSw; obtain hS1 := hSw; go_simp; try with_reducible rfl)
    try simp only [Act.put, List.setIfInBounds_toArray, List.set_cons_zero, List.set_cons_succ]
    refine anyT_takeL (i := 3) (v := ?ve3) rfl (by kernel_rfl) (by kernel_rfl) (by kernel_rfl) (by kernel_rfl) (by kernel_rfl) (fun _ _ _ h => h) (Or.inl ⟨by rfl, fun wS hSw => ?hye3⟩) hS ?ree3
    case hye3 => (dsimp only at hSw; obtain hS1 := hSw; go_simp; try with_reducible rfl)
    try simp only [Act.put, List.setIfInBounds_toArray, List.set_cons_zero, List.set_cons_succ]
    refine anyT_takeL (i := 4) (v := ?ve4) rfl (by kernel_rfl) (by kernel_rfl) (by kernel_rfl) (by kernel_rfl) (by kernel_rfl) (fun _ _ _ h => h) (Or.inl ⟨by rfl, fun wS hSw => ?hye4⟩) hS ?ree4
    case hye4 => (dsimp only at hSw; obtain hS1 := hSw; go_simp; try with_reducible rfl)
    try simp only [Act.put, List.setIfInBounds_toArray, List.set_cons_zero, List.set_cons_succ]
    refine anyT_takeL (i := 5) (v := ?ve5) rfl (by kernel_rfl) (by kernel_rfl) (by kernel_rfl) (by kernel_rfl) (by kernel_rfl) (fun _ _ _ h => h) (Or.inl ⟨by rfl, fun wS hSw => ?hye5⟩) hS ?ree5
    case hye5 => (dsimp only at hSw; obtain hS1 := hSw; go_simp; try with_reducible rfl)
    try simp only [Act.put, List.setIfInBounds_toArray, List.set_cons_zero, List.set_cons_succ]
    refine anyT_takeL (i := 6) (v := ?ve6) rfl (by kernel_rfl) (by kernel_rfl) (by kernel_rfl) (by kernel_rfl) (by kernel_rfl) (fun _ _ _ h => h) (Or.inl ⟨by rfl, fun wS hSw => ?hye6⟩) hS ?ree6
    case hye6 => (dsimp only at hSw; obtain hS1 := hSw; go_simp; try with_reducible rfl)
    try simp only [Act.put, List.setIfInBounds_toArray, List.set_cons_zero, List.set_cons_succ]
    refine anyT_takeL (i := 7) (v := ?ve7) rfl (by kernel_rfl) (by kernel_rfl) (by kernel_rfl) (by kernel_rfl) (by kernel_rfl) (fun _ _ _ h => h) (Or.inl ⟨by rfl, fun wS hSw => ?hye7⟩) hS ?ree7
    case hye7 => (dsimp only at hSw; obtain hS1 := hSw; go_simp; try with_reducible rfl)
    try simp only [Act.put, List.setIfInBounds_toArray, List.set_cons_zero, List.set_cons_succ]
    refine anyT_takeL (i := 9) (v := ?ve9) rfl (by kernel_rfl) (by kernel_rfl) (by kernel_rfl) (by kernel_rfl) (by kernel_rfl) (fun _ _ _ h => h) (Or.inl ⟨by rfl, fun wS hSw => ?hye9⟩) hS ?ree9
    case hye9 => (dsimp only at hSw; obtain hS1 := hSw; go_simp; try with_reducible rfl)
    try simp only [Act.put, List.setIfInBounds_toArray, List.set_cons_zero, List.set_cons_succ]
    refine anyT_takeL (i := 10) (v := ?ve10) rfl (by kernel_rfl) (by kernel_rfl) (by kernel_rfl) (by kernel_rfl) (by kernel_rfl) (fun _ _ _ h => h) (Or.inl ⟨by rfl, fun wS hSw => ?hye10⟩) hS ?ree10
    case hye10 => (dsimp only at hSw; obtain hS1 := hSw; go_simp; try with_reducible rfl)
    try simp only [Act.put, List.setIfInBounds_toArray, List.set_cons_zero, List.set_cons_succ]
    refine anyT_takeL (i := 11) (v := ?ve11) rfl (by kernel_rfl) (by kernel_rfl) (by kernel_rfl) (by kernel_rfl) (by kernel_rfl) (fun _ _ _ h => h) (Or.inl ⟨by rfl, fun wS hSw => ?hye11⟩) hS ?ree11
    case hye11 => (dsimp only at hSw; obtain hS1 := hSw; go_simp; try with_reducible rfl)
    try simp only [Act.put, List.setIfInBounds_toArray, List.set_cons_zero, List.set_cons_succ]
    refine anyT_takeL (i := 12) (v := ?ve12) rfl (by kernel_rfl) (by kernel_rfl) (by kernel_rfl) (by kernel_rfl) (by kernel_rfl) (fun _ _ _ h => h) (Or.inl ⟨by rfl, fun wS hSw => ?hye12⟩) hS ?ree12
    case hye12 => (dsimp only at hSw; obtain hS1 := hSw; go_simp; try with_reducible rfl)
    try simp only [Act.put, List.setIfInBounds_toArray, List.set_cons_zero, List.set_cons_succ]
    refine anyT_takeL (i := 13) (v := ?ve13) rfl (by kernel_rfl) (by kernel_rfl) (by kernel_rfl) (by kernel_rfl) (by kernel_rfl) (fun _ _ _ h => h) (Or.inl ⟨by rfl, fun wS hSw => ?hye13⟩) hS ?ree13
    case hye13 => (dsimp only at hSw; obtain hS1 := hSw; go_simp; try with_reducible rfl)
    try simp only [Act.put, List.setIfInBounds_toArray, List.set_cons_zero, List.set_cons_succ]
    refine anyT_takeL (i := 14) (v := ?ve14) rfl (by kernel_rfl) (by kernel_rfl) (by kernel_rfl) (by kernel_rfl) (by kernel_rfl) (fun _ _ _ h => h) (Or.inl ⟨by rfl, fun wS hSw => ?hye14⟩) hS ?ree14
    case hye14 => (dsimp only at hSw; obtain hS1 := hSw; go_simp; try with_reducible rfl)
    try simp only [Act.put, List.setIfInBounds_toArray, List.set_cons_zero, List.set_cons_succ]
    refine anyT_oneL (i := 8) rfl (by kernel_rfl) ?_
    intro K hK
    go_simp
    refine (commit19 o kl lb r.log W.drew HLW.out).mono ?_
    rintro e w3 ⟨rfl, hx⟩
    obtain rfl := hx.symm
    clear hx
    dsimp only
    refine hK _ _ (.inr hS) ?_
    clear hK K
    try simp only [Act.put, List.setIfInBounds_toArray, List.set_cons_zero, List.set_cons_succ]
    refine anyT_oneL (i := 15) rfl (by kernel_rfl) ?_
    intro K hK
    go_simp
    refine (slice79 o kl lb r.log _ _ W.drew HLW.out hll s0 s1 (by omega) (by omega) (by omega) (by omega) HDAT.out).mono ?_
    rintro e w3 ⟨A3, n3, e3, rfl, hD3, hb3⟩
    have hb3' : Below W.drew.heap.size W.drew w3 := hb3
    have k43 : w3.cell? ⟨b, 4, none⟩ = some (.pointer (some ⟨lb, 0, none⟩)) := (hb3'.cell (p := ⟨b, 4, none⟩) hbW).trans kW4
    have hD0 := Lib.hid (EntsAt.stays hD3 (Stays.weak (B' := Of o 0) _ fun b hb => hw _ (Nat.le_trans hWs hb)) (Stays.weak (B' := Of o 0) _ fun b hb => hw _ (Nat.le_trans hWs hb)))
    have hR3 := Lib.hid (HRW.out.below hb3' HWW.out)
    have hW3 := Lib.hid (show Wf o w3 from fun b hb => HWW.out b (Nat.le_trans hb3'.size hb))
    clear hD3 hb3 hS
    dsimp only
    refine hK _ _ (.inr k43) ?_
    clear hK K
    try simp only [Act.put, List.setIfInBounds_toArray, List.set_cons_zero, List.set_cons_succ]
    have hS : (fun w' : World => w'.cell? ⟨b, 4, none⟩ = some (.pointer (some ⟨lb, 0, none⟩))) w3 := k43
    refine anyT_takeL (i := 16) (v := ?ve16) rfl (by kernel_rfl) (by kernel_rfl) (by kernel_rfl) (by kernel_rfl) (by kernel_rfl) (fun _ _ _ h => h) (Or.inl ⟨by rfl, fun wS hSw => ?hye16⟩) hS ?ree16
    case hye16 => (dsimp only at hSw; obtain hS1 := hSw; go_simp; try with_reducible rfl)
    try simp only [Act.put, List.setIfInBounds_toArray, List.set_cons_zero, List.set_cons_succ]
    refine anyT_oneL (i := 17) rfl (by kernel_rfl) ?_
    intro K hK
    go_simp
    refine (send59 o kr kl b r { kind := 3, to_ := q, index := nx - 1, logTerm := tv, commit := r.log.commit, entries := r.log.slice nx 64 } 0 0 0 A3 n3 e3 none 0 0 none 0 0 w3 hR3.out hW3.out hk hkl hlen hD0.out SliceOf.nil_ SliceOf.nil_).mono ?_
    rintro e w4 ⟨⟨v4, rfl⟩, o4, h4, he4⟩
    dsimp only
    refine hK _ _ (.inl rfl) ?_
    clear hK K
    try simp only [Act.put, List.setIfInBounds_toArray, List.set_cons_zero, List.set_cons_succ]
    refine anyT_done (by kernel_rfl) ?_ _
    go_wp2
    go_returns
    refine ⟨⟨_, rfl⟩, o4, by rw [HSEND.out]; exact h4, ?_⟩
    exact (Ext.of_below (hbwD.trans (hb3'.mono hWs)) hw).trans he4
    -- END
end Go.Proofs.Ytibkmhacpodceaa

/- Walks: sendAll. -/
namespace Go.Proofs.Ytibkmhacpodceaa
open Go.RowKit

theorem RaftM.Ok.putOut {r : RaftM} (h : r.Ok) (l : List Msg) : ({ r with out := l } : RaftM).Ok :=
  ⟨h.log, h.id0, h.id1, h.t0, h.t1, h.mem, h.mlen, h.next0, h.next1, h.match0, h.match1, h.state, h.e0, h.e1⟩

/-- the message that sendTo sends -/
def RaftM.msgTo (r : RaftM) (p : Int) : Msg :=
  if r.next p - 1 < r.log.sI then { kind := 5, group := r.group, from_ := r.id, term := r.term, to_ := p, index := r.log.sI, logTerm := r.log.sT, members := r.log.sM, data := r.state }
  else { kind := 3, group := r.group, from_ := r.id, term := r.term, to_ := p, index := r.next p - 1, logTerm := (r.log.termAt (r.next p - 1)).getD 0, commit := r.log.commit, entries := r.log.slice (r.next p - 1 + 1) 64 }
theorem sendTo_eq (r : RaftM) (p : Int) : r.sendTo p = { r with out := r.out ++ [r.msgTo p] } := by
  unfold RaftM.sendTo RaftM.msgTo
  split <;> rfl
theorem msgTo_out (r : RaftM) (l : List Msg) (p : Int) : ({ r with out := l } : RaftM).msgTo p = r.msgTo p := rfl

theorem sendEach_eq (r : RaftM) : ∀ l : List Int, r.sendEach l = { r with out := r.out ++ (l.filter fun p => decide (p ≠ r.id)).map r.msgTo } := by
  intro l
  have key : ∀ (l : List Int) (x : List Msg), ({ r with out := x } : RaftM).sendEach l = { r with out := x ++ (l.filter fun p => decide (p ≠ r.id)).map r.msgTo } := by
    intro l
    induction l with
    | nil => intro x; simp [RaftM.sendEach]
    | cons p l ih =>
      intro x
      rw [RaftM.sendEach]
      by_cases hp : p = r.id
      · simp only [hp, ne_eq, not_true_eq_false, if_false]
        rw [ih]; simp
      · simp only [ne_eq, hp, not_false_eq_true, if_true, sendTo_eq]
        rw [ih]
        simp [hp, msgTo_out]
  exact key l r.out

theorem sendEach_snoc (r : RaftM) (l : List Int) (p : Int) : r.sendEach (l ++ [p]) = if p ≠ r.id then (r.sendEach l).sendTo p else r.sendEach l := by
  rw [sendEach_eq, sendEach_eq]
  by_cases hp : p = r.id
  · simp [hp]
  · simp [hp, sendTo_eq, msgTo_out]

theorem sendEach_len (r : RaftM) (l : List Int) : (r.sendEach l).out.length ≤ r.out.length + l.length := by
  rw [sendEach_eq]
  simp only [List.length_append, List.length_map]
  have := List.length_filter_le (fun p => decide (p ≠ r.id)) l
  omega

set_option maxHeartbeats 2000000 in
theorem sendAll33 (o : Own) (kr kl : Nat) (b : Nat) (r : RaftM) (w : World) (h : RaftAt o kr kl w b r) (hok : r.Ok) (hw : Wf o w) (hk : kr ≠ 0) (hkl : kr ≠ kl) (hlen : r.out.length ≤ 40000) :
    Calls Try.prog 33 #[.pointer (some ⟨b, 0, none⟩)] w (SendIs o kr kl b r.sendAll w) := by
  have H := Lib.hid h
  have HOK := Lib.hid hok
  obtain ⟨lb, As, ns, cs, Ao, no, co, ⟨c0, c1, c2, c3, c4, c5, c6, c7, c8, c27, f, hlt⟩, ho, hL, hs, _⟩ := h.open_
  have HL := Lib.hid hL
  by_cases hrole : r.role = 3
  · have HSEND : Hid (r.sendAll = r.sendEach r.log.members) := by unfold Hid RaftM.sendAll; rw [if_neg (by simpa using hrole)]
    have hr' : (r.role != 3) = false := by simpa using hrole
    clear h hok hL hs hrole
    go_enter Try.func33, Try.ntmps33
    go_wp2_with fail
    refine (members17 o kl lb r.log w HL.out HOK.out.log).mono ?_
    rintro e w1 ⟨A, n, c, rfl, hI, hb1⟩
    have hn := hI.len.1
    have HN := Lib.hid hn
    have hn5 : n ≤ 5 := by have := HOK.out.mlen; omega
    have HI := Lib.hid (IntsAt.stays hI (Stays.weak (B' := Of o 0) _ fun b hb => hw b hb))
    have HR1 := Lib.hid (H.out.below hb1 hw)
    have hw1 : Wf o w1 := fun b hb => hw b (Nat.le_trans hb1.size hb)
    clear hn hI
    go_wp2
    go_loopw [15] (fun i wr => ∃ k : Nat, k ≤ n ∧ i = .int .i64 k ∧ Hid (∃ o', RaftAt o' kr kl wr b (r.sendEach (r.log.members.take k)) ∧ Ext [kr] o o' w1 wr)) (fun i _ => n - (intOf i).toNat)
    case atStart => exact ⟨0, Nat.zero_le _, rfl, o, by simpa [RaftM.sendEach] using HR1.out, Ext.refl _ _ _⟩
    case round =>
      obtain ⟨k, hk', rfl, HRR⟩ := hrel
      obtain ⟨o', hR', he'⟩ := HRR.out
      have hid : (r.sendEach (r.log.members.take k)).id = r.id := by rw [sendEach_eq]
      have HR' := Lib.hid hR'
      obtain ⟨lb', As', ns', cs', Ao', no', co', ⟨d0, d1, d2, d3, d4, d5, d6, d7, d8, d27, f', hlt'⟩, _⟩ := hR'.open_
      rw [hid] at d1
      clear hR' d0 d2 d3 d4 d5 d6 d7 d8 d27 HRR c0 c1 c2 c3 c4 c5 c6 c7 c8 c27
      by_cases hlt2 : k < n
      · obtain ⟨x, hx⟩ : ∃ x, r.log.members[k]? = some x := ⟨_, List.getElem?_eq_getElem (by have := HN.out; omega)⟩
        obtain ⟨g, off, rfl, hg, k0⟩ := IntsAt.at? (IntsAt.stays HI.out (he'.stays (by simpa using hk.symm))) hx
        have hxm := HOK.out.mem x (List.mem_of_getElem? hx)
        have HT : Hid (r.log.members.take (k + 1) = r.log.members.take k ++ [x]) := by
          obtain ⟨hk2, hxe⟩ := List.getElem?_eq_some_iff.1 hx
          unfold Hid
          rw [List.take_succ_eq_append_getElem hk2, hxe]
        clear hx
        by_cases hxi : x = r.id
        · have hxi' : (x != r.id) = false := by simpa using hxi
          have HX := Lib.hid hxi
          clear hxi
          go_wp2
          go_roundw
          case rel => exact ⟨k + 1, by omega, by go_num, o', by rw [HT.out, sendEach_snoc, if_neg (by simpa using HX.out)]; exact HR'.out, he'⟩
          case measure => simp [intOf]; omega
        · have hxi' : (x != r.id) = true := by simpa using hxi
          have HX := Lib.hid hxi
          clear hxi
          have hlen' : (r.sendEach (r.log.members.take k)).out.length ≤ 50000 := by
            have := sendEach_len r (r.log.members.take k)
            have := HN.out
            rw [List.length_take] at *
            omega
          have hok' : (r.sendEach (r.log.members.take k)).Ok := by rw [sendEach_eq]; exact HOK.out.putOut _
          go_wp2_with fail
          refine (sendTo56 o' kr kl b _ x wr HR'.out hok' (he'.wf hw1) hk hkl hlen' hxm.1 hxm.2).mono ?_
          rintro e w2 ⟨⟨v2, rfl⟩, o2, h2, he2⟩
          go_wp2
          go_roundw
          case rel => exact ⟨k + 1, by omega, by go_num, o2, by rw [HT.out, sendEach_snoc, if_pos (by simpa using HX.out)]; exact h2, he'.trans he2⟩
          case measure => simp [intOf]; omega
      · obtain rfl : k = n := by omega
        have HE : Hid (r.log.members.take k = r.log.members) := List.take_of_length_le (by rw [← HN.out]; exact Nat.le_refl _)
        go_wp2
        go_returns
        exact ⟨⟨_, rfl⟩, o', by rw [HSEND.out, ← HE.out]; exact HR'.out, (Ext.of_below hb1 hw).trans he'⟩
  · have HSEND : Hid (r.sendAll = r) := by unfold Hid RaftM.sendAll; rw [if_pos hrole]
    have hr' : (r.role != 3) = true := by simpa using hrole
    clear h hok hL hs hrole
    go_enter Try.func33, Try.ntmps33
    go_wp2
    go_returns
    exact ⟨⟨_, rfl⟩, o, by rw [HSEND.out]; exact H.out, Ext.refl _ _ _⟩
end Go.Proofs.Ytibkmhacpodceaa
