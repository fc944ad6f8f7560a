/- Walks: a point's copy, Start, Copy, New, raftcore's members. -/
import Derived.Test.YtibkmhacpodceaaW9
import Derived.Deep.RegionHeld3
namespace Go.Proofs.Ytibkmhacpodceaa
open Go.RowKit

def PointIs (i t : Int) (l : List Int) (w : World) (e : Ending) (w' : World) : Prop := ∃ A n c, e = .returned (.agg #[.int .i64 i, .int .i64 t, .slice A n c]) ∧ IntsAt (From w.heap.size) w' (.slice A n c) l ∧ Below w.heap.size w w'

set_option maxHeartbeats 1000000 in
theorem copied52 (i t : Int) (A : Option Addr) (n c : Nat) (l : List Int) (B : Nat → Prop) (w : World) (h : IntsAt B w (.slice A n c) l) (hl : l.length ≤ 30000) :
    Calls Try.prog 52 #[.agg #[.int .i64 i, .int .i64 t, .slice A n c]] w (PointIs i t l w) := by
  have b0 : Blk ((w.alloc (.cells #[.int .i64 i, .int .i64 t, .slice A n c] 60)).alloc (.cells #[.int .i64 0, .int .i64 0, .slice none 0 0] 60)) w.heap.size 60 [.int .i64 i, .int .i64 t, .slice A n c] := (Blk.new w 60 _).alloc _
  have HB := Lib.hid b0
  clear b0
  go_enter Try.func52, Try.ntmps52
  go_wp2_with fail
  refine (clone27 _ l B _ (IntsAt.stays h (((Stays.refl _ w).alloc _).alloc _)) hl).mono ?_
  rintro e w1 ⟨v1, rfl, hI, hb1⟩
  obtain ⟨A1, c1, rfl, _⟩ := hI.form
  obtain ⟨k1, f1, s1, hb2⟩ := kept_new hb1
  have B0 := HB.out.same (hb1.block w.heap.size (by simp; omega))
  have k0 := B0.cells
  have f0 := B0.frozens
  simp only [World.size_alloc] at k1 f1 s1
  have HI := Lib.hid hI
  clear B0 hI
  go_wp2
  refine bodyPost_ret (v := .agg #[.int .i64 i, .int .i64 t, .slice A1 l.length c1]) (by simp [results, Try.results52, go_sem, k1]) rfl ?_
  refine ⟨A1, _, c1, rfl, ?_, ?_⟩
  · exact IntsAt.stays HI.out (((((Stays.refl _ w1).setCell (by simp [From]; omega) _).setCell (by simp [From]) _).setCell (by simp [From]) _).setCell (by simp [From]) _ |>.trans (Stays.weak _ fun b hb => by simp [From] at *; omega))
  · exact ((((((((Below.refl _ w).alloc (Nat.le_refl _) _).trans (hb2.mono (by simp))).setCell (by simp) _).setCell (by simp) _).setCell (by simp) _).setCell (by simp) _))

set_option maxHeartbeats 1000000 in
theorem start23 (o : Own) (kl : Nat) (b : Nat) (L : LogM) (w : World) (h : LogAt o kl w b L) (hl : L.sM.length ≤ 30000) :
    Calls Try.prog 23 #[.pointer (some ⟨b, 0, none⟩)] w (PointIs L.sI L.sT L.sM w) := by
  obtain ⟨A, n, c, A3, n3, c3, hc, hf, hb, hn2, hc2, hM, hE⟩ := h.open_
  clear hn2
  go_enter Try.func23, Try.ntmps23
  go_wp2_with fail
  refine (copied52 L.sI L.sT A n c L.sM (Of o 0) _ (IntsAt.stays hM ((Stays.refl _ w).alloc _)) hl).mono ?_
  rintro e w1 ⟨A1, n1, c1, rfl, hI, hb1⟩
  obtain ⟨k1, f1, s1, hb2⟩ := kept_new hb1
  have HI := Lib.hid hI
  clear hI
  go_wp2
  refine bodyPost_ret (v := .agg #[.int .i64 L.sI, .int .i64 L.sT, .slice A1 n1 c1]) (by simp [results, Try.results23, go_sem, k1]) rfl ?_
  refine ⟨A1, _, c1, rfl, ?_, ?_⟩
  · exact IntsAt.stays HI.out ((((Stays.refl _ w1).setCell (by simp [From]) _).setCell (by simp [From]) _).setCell (by simp [From]) _ |>.trans (Stays.weak _ fun b hb => by simp [From] at *; omega))
  · exact (((hb2.setCell (by simp) _).setCell (by simp) _).setCell (by simp) _)

def CopyIs (o : Own) (kl : Nat) (L : LogM) (w : World) (e : Ending) (w' : World) : Prop := ∃ b' o', e = .returned (.pointer (some ⟨b', 0, none⟩)) ∧ LogAt o' kl w' b' L ∧ Ext [] o o' w w'

/-- a new log over an old row -/
theorem LogAt.fresh {o : Own} {kl : Nat} {w w1 : World} {A1 A3 : Option Addr} {n1 c1 n3 c3 : Nat} {L : LogM} (hw : Wf o w) (hb1 : Below w.heap.size w w1) (hI : IntsAt (From w.heap.size) w1 (.slice A1 n1 c1) L.sM)
    (hE : RowOf 4 (EntR (Of o 0) w) 63 o kl w (.slice A3 n3 c3) L.ents) :
    LogAt (upd o w1.heap.size kl) kl (w1.alloc (.cells #[.int .i64 L.sI, .int .i64 L.sT, .slice A1 n1 c1, .slice A3 n3 c3, .int .i64 L.commit] 70)) w1.heap.size L ∧
    Ext [] o (upd o w1.heap.size kl) w (w1.alloc (.cells #[.int .i64 L.sI, .int .i64 L.sT, .slice A1 n1 c1, .slice A3 n3 c3, .int .i64 L.commit] 70)) := by
  have hz := hb1.size
  have he : Ext [] o (upd o w1.heap.size kl) w (w1.alloc (.cells #[.int .i64 L.sI, .int .i64 L.sT, .slice A1 n1 c1, .slice A3 n3 c3, .int .i64 L.commit] 70)) :=
    ((Ext.of_below hb1 hw).alloc _).give hz (by simp)
  refine ⟨⟨A1, n1, c1, A3, n3, c3, Blk.new w1 70 _, upd_same _ _ _, ?_, ?_⟩, he⟩
  · refine IntsAt.stays hI (Stays.trans (B' := fun b => w.heap.size ≤ b ∧ b < w1.heap.size) ⟨Nat.le_refl _, fun b hb hl => ⟨⟨hb, hl⟩, rfl⟩⟩ (((Stays.refl _ w1).alloc _).trans (Stays.weak _ fun b hb => ?_)))
    simp only [Of]
    rw [upd_other _ (by omega)]
    exact hw b hb.1
  · exact hE.stays (he.stays (by simp)) fun _ _ => EntR.stays (he.stays (by simp))

set_option maxHeartbeats 1000000 in
theorem copy31 (o : Own) (kl : Nat) (b : Nat) (L : LogM) (w : World) (h : LogAt o kl w b L) (hl : L.sM.length ≤ 30000) (hw : Wf o w) :
    Calls Try.prog 31 #[.pointer (some ⟨b, 0, none⟩)] w (CopyIs o kl L w) := by
  obtain ⟨A, n, c, A3, n3, c3, hc, hf, hb, hn2, hc2, hM, hE⟩ := h.open_
  have HN2 := Lib.hid hn2
  clear hn2
  go_enter Try.func31, Try.ntmps31
  go_wp2
  go_region_held3 (fun w' => w'.cell? ⟨b, 0, none⟩ = some (.int .i64 L.sI) ∧ w'.cell? ⟨b, 1, none⟩ = some (.int .i64 L.sT) ∧ w'.cell? ⟨b, 2, none⟩ = some (.slice A n c) ∧ w'.cell? ⟨b, 3, none⟩ = some (.slice A3 n3 c3) ∧ w'.cell? ⟨b, 4, none⟩ = some (.int .i64 L.commit)) (go_keep)
   (first
    | (go_at_call 52; refine (copied52 L.sI L.sT A n c L.sM (Of o 0) _ (IntsAt.stays hM (Stays.refl _ w).drew) hl).mono ?_; rintro e w1 ⟨A1, n1, c1, rfl, hI, hb1⟩; obtain ⟨k1, f1⟩ := keeps hb1 hb hc hf)
    | (go_at_call 55; refine (clip55 A3 n3 c3 _ hc2).mono ?_; rintro e w2 ⟨rfl, rfl⟩))
  go_wp2
  go_ret
  rw [HN2.out] at hE
  have hE2 := hE.clip (Nat.le_refl _)
  rw [List.take_of_length_le (Nat.le_refl _)] at hE2
  obtain ⟨hL, he⟩ := LogAt.fresh (w := w) (L := L) hw ⟨hb1.os, hb1.tape, hb1.output, hb1.size, hb1.block⟩ hI hE2
  rw [← HN2.out] at hL he
  exact ⟨_, _, rfl, hL, he⟩

def NewLogIs (o : Own) (kl : Nat) (l : List Int) (w : World) (e : Ending) (w' : World) : Prop := ∃ b' o', e = .returned (.tuple #[.pointer (some ⟨b', 0, none⟩), .int .i64 0]) ∧ LogAt o' kl w' b' ⟨0, 0, l, [], 0⟩ ∧ Ext [] o o' w w'

set_option maxHeartbeats 1000000 in
theorem new8 (o : Own) (kl : Nat) (v : Value) (l : List Int) (B : Nat → Prop) (w : World) (h : IntsAt B w v l) (hl : l.length ≤ 30000) (hm : membersB l = true) (hw : Wf o w) :
    Calls Try.prog 8 #[v] w (NewLogIs o kl l w) := by
  go_enter Try.func8, Try.ntmps8
  go_wp2_with fail
  refine (members26 v l B w h hl).mono ?_
  rintro e w1 ⟨rfl, rfl⟩
  go_wp2_with fail
  refine (clone27 v l B _ h hl).mono ?_
  rintro e w1 ⟨v1, rfl, hI, hb1⟩
  obtain ⟨A1, c1, rfl, _⟩ := hI.form
  have HI := Lib.hid hI
  clear hI
  go_wp2
  go_ret2
  obtain ⟨hL, he⟩ := LogAt.fresh (L := ⟨0, 0, l, [], 0⟩) (kl := kl) (A3 := none) (n3 := 0) (c3 := 0) hw hb1 HI.out RowOf.nil_
  exact ⟨_, _, rfl, hL, he⟩

end Go.Proofs.Ytibkmhacpodceaa

/- Walks: raftcore's members; Add, Cut, Reset. -/
namespace Go.Proofs.Ytibkmhacpodceaa
open Go.RowKit

def membersC (l : List Int) : Bool := decide (0 < l.length) && risingB 0 l
def RiseInv (l : List Int) (k : Nat) : Prop := ∃ n0, RisingTo l k n0 ∧ (k = 0 → n0 = 0) ∧ (0 < k → l[k - 1]? = some n0 ∧ 1 ≤ n0)

theorem riseInv_step {l : List Int} {k : Nat} {x : Int} (h : RiseInv l k) (hx : l[k]? = some x) (h1 : 1 ≤ x) (h5 : x ≤ 5) (hp : 0 < k → ∀ n0, l[k - 1]? = some n0 → n0 < x) : RiseInv l (k + 1) := by
  obtain ⟨n0, hr, h0, h2⟩ := h
  obtain ⟨hk, rfl⟩ := List.getElem?_eq_some_iff.1 hx
  refine ⟨l[k], risingTo_step hr hk ?_ h5, by omega, fun _ => ⟨by simp, h1⟩⟩
  rcases Nat.eq_zero_or_pos k with hz | hz
  · rw [h0 hz]; omega
  · exact hp hz n0 (h2 hz).1
theorem riseInv_bad {l : List Int} {k : Nat} {x : Int} (h : RiseInv l k) (hx : l[k]? = some x) (hb : ¬ (1 ≤ x ∧ x ≤ 5) ∨ (0 < k ∧ ∃ n0, l[k - 1]? = some n0 ∧ x ≤ n0)) : membersC l = false := by
  obtain ⟨n0, hr, h0, h2⟩ := h
  obtain ⟨hk, rfl⟩ := List.getElem?_eq_some_iff.1 hx
  unfold membersC
  rw [risingTo_bad hr hk ?_, Bool.and_false]
  rintro ⟨h3, h4⟩
  rcases hb with hb | ⟨hz, n1, hn, hle⟩
  · rcases Nat.eq_zero_or_pos k with hz | hz
    · rw [h0 hz] at h3; omega
    · have := (h2 hz).2; omega
  · rw [(h2 hz).1] at hn
    injection hn with hn
    omega

set_option maxHeartbeats 1000000 in
theorem members46 (v : Value) (l : List Int) (B : Nat → Prop) (w : World) (h : IntsAt B w v l) (hl : l.length ≤ 30000) :
    Calls Try.prog 46 #[v] w fun e w' => e = .returned (.bool (membersC l)) ∧ w' = w := by
  obtain ⟨A, c, rfl, hc⟩ := h.form
  go_enter Try.func46, Try.ntmps46
  go_wp2
  go_loop [7] (fun i => ∃ k : Nat, k ≤ l.length ∧ i = .int .i64 k ∧ Hid (RiseInv l k)) (fun i => l.length - (intOf i).toNat)
  case atStart => exact ⟨0, Nat.zero_le _, rfl, 0, rfl, fun _ => rfl, by omega⟩
  case round =>
    obtain ⟨k, hk, rfl, HI⟩ := hrel
    by_cases hlt : k < l.length
    · obtain ⟨x, hx⟩ : ∃ x, l[k]? = some x := ⟨_, List.getElem?_eq_getElem hlt⟩
      obtain ⟨g, off, rfl, hg, hcell⟩ := IntsAt.at? h hx
      have HS : Hid (1 ≤ x → x ≤ 5 → (0 < k → ∀ n0, l[k - 1]? = some n0 → n0 < x) → RiseInv l (k + 1)) := riseInv_step HI.out hx
      have HB : Hid (¬ (1 ≤ x ∧ x ≤ 5) ∨ (0 < k ∧ ∃ n0, l[k - 1]? = some n0 ∧ x ≤ n0) → membersC l = false) := riseInv_bad HI.out hx
      clear hx
      by_cases hn : 1 ≤ x ∧ x ≤ 5
      · have HN := Lib.hid (show okNode x = true by unfold okNode; simp [hn])
        rcases Nat.eq_zero_or_pos k with hz | hz
        · subst hz
          rw [Nat.add_zero] at hcell
          go_wp2_with (go_at_call 29; refine (node29 _ _).mono ?_; rintro e w' ⟨rfl, rfl⟩; rw [HN.out])
          go_round
          case rel => exact ⟨1, by omega, by go_num, HS.out hn.1 hn.2 (by omega)⟩
          case measure => simp [intOf]; omega
        · obtain ⟨k, rfl⟩ : ∃ j, k = j + 1 := ⟨k - 1, by omega⟩
          obtain ⟨y, hy⟩ : ∃ y, l[k]? = some y := ⟨_, List.getElem?_eq_getElem (by omega)⟩
          obtain ⟨g', off', he, hg', hcell'⟩ := IntsAt.at? h hy
          simp only [Option.some.injEq, Addr.mk.injEq, and_true] at he
          obtain ⟨rfl, rfl⟩ := he
          have HY := Lib.hid hy
          clear hy
          by_cases hxy : x ≤ y
          · go_wp2_with (go_at_call 29; refine (node29 _ _).mono ?_; rintro e w' ⟨rfl, rfl⟩; rw [HN.out])
            go_ret
            exact ⟨ret_bool (HB.out (.inr ⟨hz, y, by simpa using HY.out, hxy⟩)).symm, rfl⟩
          · go_wp2_with (go_at_call 29; refine (node29 _ _).mono ?_; rintro e w' ⟨rfl, rfl⟩; rw [HN.out])
            go_round
            case rel => exact ⟨k + 1 + 1, by omega, by go_num, HS.out hn.1 hn.2 (fun _ n0 h0 => by rw [show k + 1 - 1 = k from rfl, HY.out] at h0; injection h0 with h0; omega)⟩
            case measure => simp [intOf]; omega
      · have HN := Lib.hid (show okNode x = false by unfold okNode; simp; omega)
        have HF := Lib.hid (HB.out (.inl hn))
        clear hn
        go_wp2_with (go_at_call 29; refine (node29 _ _).mono ?_; rintro e w' ⟨rfl, rfl⟩; rw [HN.out])
        go_ret
        exact ⟨ret_bool HF.out.symm, rfl⟩
    · obtain rfl : k = l.length := by omega
      have HE : Hid (membersC l = decide (0 < l.length)) := by
        obtain ⟨n0, hr, _⟩ := HI.out
        unfold Hid membersC; rw [risingTo_end hr, Bool.and_true]
      go_wp2
      go_ret
      exact ⟨ret_bool (by rw [HE.out]), rfl⟩

end Go.Proofs.Ytibkmhacpodceaa

/- Walks: Add. -/
namespace Go.Proofs.Ytibkmhacpodceaa
open Go.RowKit

def AddIs (o : Own) (kl : Nat) (b : Nat) (L : LogM) (term kind : Int) (data : List Int) (w : World) (e : Ending) (w' : World) : Prop :=
  ∃ o', e = .returned (.tuple #[.int .i64 (L.add term kind data).1, .int .i64 (L.add term kind data).2.1]) ∧ LogAt o' kl w' b (L.add term kind data).2.2 ∧ Ext [kl] o o' w w'

theorem add_step {o : Own} {kl : Nat} {b : Nat} {L : LogM} {w w3 : World} {x : Ent} {A1 : Option Addr} {n1 c1 : Nat} (h : LogAt o kl w b L) (hw : Wf o w) (h0 : kl ≠ 0) (hb : Below w.heap.size w w3) (hl : L.ents.length ≤ 20000)
    (hD : BytesAt (From w.heap.size) w3 (.slice A1 n1 c1) x.data) {g0 : Nat} {cs : List Value} (hg : Blk w3 g0 63 cs) (hg0 : w.heap.size ≤ g0) {A n c A2 n2 c2} (hc : ∀ i, w.cell? ⟨b, i, none⟩ = [.int .i64 L.sI, .int .i64 L.sT, .slice A n c, .slice A2 n2 c2, .int .i64 L.commit][i]?) :
    ∃ v' w', (Builtin.append_ #[43, 43] 43 #[.slice A2 n2 c2, .slice (some ⟨w3.heap.size, 0, none⟩) 1 1]).run Try.prog (w3.alloc (.cells #[.int .i64 x.index, .int .i64 x.term, .int .i64 x.kind, .slice A1 n1 c1] 63)).drew = .ok v' w' ∧
      ∃ A' n' c', v' = .slice A' n' c' ∧ (∀ i, w'.cell? ⟨b, i, none⟩ = [.int .i64 L.sI, .int .i64 L.sT, .slice A n c, .slice A2 n2 c2, .int .i64 L.commit][i]?) ∧ (∀ i, w'.frozen? ⟨b, i, none⟩ = false) ∧ (∀ i, w'.cell? ⟨g0, i, none⟩ = cs[i]?) ∧
        Hid (∃ o', LogAt o' kl (w'.setCell ⟨b, 3, none⟩ v') b { L with ents := L.ents ++ [x] } ∧ Ext [kl] o o' w (w'.setCell ⟨b, 3, none⟩ v')) := by
  obtain ⟨A', n', c', A2', n2', c2', hb0, ho, hm, hr⟩ := h
  have hbl := hb0.lt
  have e1 : Ext [] o o w (w3.alloc (.cells #[.int .i64 x.index, .int .i64 x.term, .int .i64 x.kind, .slice A1 n1 c1] 63)).drew := (((Ext.of_below hb hw)).alloc _).drew
  have q1 := hb0.cells 3
  have q2 := hb0.cells 2
  rw [hc] at q1 q2
  simp only [logCells, List.getElem?_cons_succ, List.getElem?_cons_zero, Option.some.injEq, Value.slice.injEq] at q1 q2
  obtain ⟨rfl, rfl, rfl⟩ := q1
  obtain ⟨rfl, rfl, rfl⟩ := q2
  have hr1 := hr.stays (e1.stays (k := kl) (by simp)) (fun _ _ => EntR.stays (e1.stays (k := 0) (by simp)))
  have hs : EntsAt Any (Of o 0) (w3.alloc (.cells #[.int .i64 x.index, .int .i64 x.term, .int .i64 x.kind, .slice A1 n1 c1] 63)).drew (.slice (some ⟨w3.heap.size, 0, none⟩) 1 1) [x] :=
    SliceOf.one (Blk.new w3 63 _).drew trivial rfl ⟨A1, n1, c1, rfl, BytesAt.stays hD ((((Stays.refl _ w3).alloc _).drew).trans (Stays.weak _ fun b hb => hw b hb))⟩
  obtain ⟨v', w', h1, o', h2, h3, h4⟩ := append_ents 43 h0 hr1 hs (by simp; omega)
  obtain ⟨A5, c5, rfl, _⟩ := h2.form
  have B1 : Blk w' b 70 (logCells L (.slice A n c) (.slice A2 n2 c2)) := h4 _ _ _ (e1.blk hb0 (by simp)) (by simp)
  have e2 := (e1.mono (S' := [kl]) (by simp)).trans h3
  have B2 : Blk w' g0 63 cs := h3.blk (hg.alloc _).drew (by rw [hw g0 hg0]; simpa using h0.symm)
  refine ⟨_, w', h1, A5, _, c5, rfl, B1.cells, B1.frozens, B2.cells, o', ?_, e2.setCell (.inr (by simp [ho])) _⟩
  have hst : Stays (Of o' 0) (Of o' 0) w' (w'.setCell ⟨b, 3, none⟩ (.slice A5 (L.ents ++ [x]).length c5)) := (Stays.refl _ w').setCell (by simp only [Of]; rw [e2.own b hbl, ho]; exact h0) _
  exact ⟨A, n, c, A5, _, c5, B1.set_ 3 _, (e2.own b hbl).trans ho, IntsAt.stays hm ((e2.stays (by simpa using h0.symm)).trans hst), h2.far B1 (by simp) _ fun _ _ => EntR.stays hst⟩

set_option maxHeartbeats 2000000 in
theorem add69 (o : Own) (kl : Nat) (b : Nat) (L : LogM) (term kind : Int) (data : List Int) (A0 : Option Addr) (n0 c0 : Nat) (B : Nat → Prop) (w : World) (h : LogAt o kl w b L) (hok : L.Ok) (hw : Wf o w) (h0 : kl ≠ 0)
    (hd : BytesAt B w (.slice A0 n0 c0) data) (hdl : data.length ≤ 30000) :
    Calls Try.prog 69 #[.pointer (some ⟨b, 0, none⟩), .int .i64 term, .int .i64 kind, .slice A0 n0 c0] w (AddIs o kl b L term kind data w) := by
  have hl := hok.len
  have g1 : 0 ≤ L.last.1 := by rw [hok.last1]; have := hok.i0; omega
  have g2 : L.last.1 ≤ 60000 := by rw [hok.last1]; have := hok.i1; omega
  have HF : Hid (L.add term kind data = if followB (L.last.1 + 1) L.last.2 [⟨L.last.1 + 1, term, kind, data⟩] then (L.last.1 + 1, 0, { L with ents := L.ents ++ [⟨L.last.1 + 1, term, kind, data⟩] }) else (0, 1, L)) := rfl
  obtain ⟨A, n, c, A2, n2, c2, hc, hf, hb, hn2, hc2, hM, hE⟩ := h.open_
  have HC := Lib.hid hc
  clear hn2 hc
  go_enter Try.func69, Try.ntmps69
  go_wp2_with fail
  refine (last28 o kl b L w h hl).mono ?_
  rintro e w1 ⟨rfl, hb1⟩
  generalize L.last.1 = li at *
  generalize L.last.2 = lt at *
  go_wp2_with fail
  refine (own54 ⟨li + 1, term, kind, data⟩ A0 n0 c0 B _ (BytesAt.stays hd (Stays.of_below hb1)) hdl).mono ?_
  rintro e w2 ⟨A1, n1, c1, rfl, hD, hb2⟩
  have hb12 : Below w.heap.size w w2 := hb1.trans (hb2.mono hb1.size)
  have HS : Hid (EntsAt Any Any ((w2.alloc (.cells #[.int .i64 (li + 1), .int .i64 term, .int .i64 kind, .slice A1 n1 c1] 63)).alloc (.cells #[.int .i64 (li + 1), .int .i64 term, .int .i64 kind, .slice A1 n1 c1] 63))
      (.slice (some ⟨w2.heap.size + 1, 0, none⟩) 1 1) [⟨li + 1, term, kind, data⟩]) := by
    have hB := Blk.new (w2.alloc (.cells #[.int .i64 (li + 1), .int .i64 term, .int .i64 kind, .slice A1 n1 c1] 63)) 63 [.int .i64 (li + 1), .int .i64 term, .int .i64 kind, .slice A1 n1 c1]
    rw [World.size_alloc] at hB
    exact SliceOf.one hB trivial rfl ⟨A1, n1, c1, rfl, BytesAt.stays hD ((((Stays.refl _ w2).alloc _).alloc _).trans (Stays.weak _ fun _ _ => trivial))⟩
  have HD : Hid (BytesAt (From w.heap.size) w2 (.slice A1 n1 c1) data) := BytesAt.stays hD (Stays.weak _ fun b hb => by have := hb1.size; simp [From] at *; omega)
  have hdl' := Lib.hid hdl
  clear hD hb1 hb2 hdl
  go_wp2_with fail
  refine (follow84 li lt _ [⟨li + 1, term, kind, data⟩] Any Any _ HS.out (by simp) (by intro i hi; simp at hi; subst hi; exact hdl'.out) g1 g2).mono ?_
  rintro e w3 ⟨rfl, hb3⟩
  have hb23 : Below w2.heap.size w2 w3 := (((Below.refl _ w2).alloc (Nat.le_refl _) _).alloc (by simp) _).trans (hb3.mono (by simp; omega))
  have hb13 : Below w.heap.size w w3 := hb12.trans (hb23.mono hb12.size)
  have B0 : Blk w3 w2.heap.size 63 [.int .i64 (li + 1), .int .i64 term, .int .i64 kind, .slice A1 n1 c1] := ((Blk.new w2 63 _).alloc _).same (hb3.block w2.heap.size (by simp; omega))
  have k0 := B0.cells
  have s0 := B0.lt
  obtain ⟨k1, f1⟩ := keeps hb13 hb HC.out hf
  have hb' : b < w3.heap.size := Nat.lt_of_lt_of_le hb hb13.size
  have HD3 : Hid (BytesAt (From w.heap.size) w3 (.slice A1 n1 c1) data) := BytesAt.stays HD.out (Stays.of_below hb23)
  clear hb3 HS HD
  cases hq : followB (li + 1) lt [⟨li + 1, term, kind, data⟩]
  · have HQ : Hid (L.add term kind data = (0, 1, L)) := by have := HF.out; rw [hq] at this; unfold Hid; simpa using this
    clear hq
    go_wp2
    go_ret2
    refine ⟨o, by rw [HQ.out]; rfl, ?_, Ext.of_below hb13 hw⟩
    rw [HQ.out]
    exact h.below hb13
  · have HQ : Hid (L.add term kind data = (li + 1, 0, { L with ents := L.ents ++ [⟨li + 1, term, kind, data⟩] })) := by have := HF.out; rw [hq] at this; unfold Hid; simpa using this
    have HA := Lib.hid (add_step (x := ⟨li + 1, term, kind, data⟩) h hw h0 hb13 hl HD3.out B0 hb12.size HC.out)
    clear hq
    go_wp2
    go_region_law (
      (refine step_append_ex rfl (.tmp 35) (.tmp 37) 43 rfl _ _ _ rfl rfl HA.out ?_
       rintro v' w' ⟨A', n', c', rfl, h5, f5, h6, HL⟩))
    all_goals go_wp2
    all_goals
      go_ret2
      obtain ⟨o', hL, he⟩ := HL.out
      exact ⟨o', by rw [HQ.out]; rfl, by rw [HQ.out]; exact hL, he⟩

end Go.Proofs.Ytibkmhacpodceaa
