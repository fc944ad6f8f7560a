/- Walks: Offer. -/
import Derived.Test.YtibkmhacpodceaaW14
import Derived.Test.YtibkmhacpodceaaAnyT
namespace Go.Proofs.Ytibkmhacpodceaa
open Go.RowKit

def OfferIs (o : Own) (kl : Nat) (b : Nat) (L : LogM) (i t : Int) (es : List Ent) (w : World) (e : Ending) (w' : World) : Prop :=
  ∃ o', e = .returned (.tuple #[.int .i64 (L.offer i t es).1, .bool (L.offer i t es).2.1, .int .i64 (L.offer i t es).2.2.1]) ∧ LogAt o' kl w' b (L.offer i t es).2.2.2 ∧ Ext [kl] o o' w w'

theorem offer_bad {L : LogM} {i t : Int} {es : List Ent} (h : (okCount i && okCount t && followB (i + 1) t es) = false) : L.offer i t es = (0, false, 1, L) := by
  unfold LogM.offer; rw [if_neg (by simp [h])]
theorem offer_low {L : LogM} {i t : Int} {es : List Ent} (h : (okCount i && okCount t && followB (i + 1) t es) = true) (h2 : i < L.sI) (h3 : ∀ e, (es.drop (min (L.sI - i) es.length).toNat).head? = some e → ¬ e.term < L.sT) :
    L.offer i t es = L.offerAt L.sI (es.drop (min (L.sI - i) es.length).toNat) := by
  unfold LogM.offer; rw [if_pos h, if_pos h2]
  dsimp only
  generalize es.drop (min (L.sI - i) es.length).toNat = es' at *
  cases es' with
  | nil => rfl
  | cons e es' => dsimp only; rw [if_neg (h3 e rfl)]
theorem offer_lowbad {L : LogM} {i t : Int} {es : List Ent} (h : (okCount i && okCount t && followB (i + 1) t es) = true) (h2 : i < L.sI) {e : Ent} (h3 : (es.drop (min (L.sI - i) es.length).toNat).head? = some e) (h4 : e.term < L.sT) :
    L.offer i t es = (0, false, 101, L) := by
  unfold LogM.offer; rw [if_pos h, if_pos h2]
  dsimp only
  generalize es.drop (min (L.sI - i) es.length).toNat = es' at *
  cases es' with
  | nil => cases h3
  | cons e' es' => simp at h3; subst h3; dsimp only; rw [if_pos h4]
theorem offer_at {L : LogM} {i t : Int} {es : List Ent} (h : (okCount i && okCount t && followB (i + 1) t es) = true) (h2 : ¬ i < L.sI) (h3 : L.termAt i = some t) : L.offer i t es = L.offerAt i es := by
  unfold LogM.offer; rw [if_pos h, if_neg h2, if_pos h3]
theorem offer_no {L : LogM} {i t : Int} {es : List Ent} (h : (okCount i && okCount t && followB (i + 1) t es) = true) (h2 : ¬ i < L.sI) (h3 : L.termAt i ≠ some t) : L.offer i t es = (max L.commit (min L.last.1 (i - 1)), false, 0, L) := by
  unfold LogM.offer; rw [if_pos h, if_neg h2, if_neg h3]

/-- what the loop is entered with -/
def OfferMid (L : LogM) (i t : Int) (es : List Ent) (B B2 : Nat → Prop) (w : World) (s1 s3 : Value) (wx : World) : Prop :=
  ∃ i' es' A n c, s1 = .int .i64 i' ∧ s3 = .slice A n c ∧ EntsAt B B2 w (.slice A n c) es' ∧ L.offer i t es = L.offerAt i' es' ∧ 0 ≤ i' ∧ i' ≤ 60000 ∧ Below w.heap.size w wx ∧ es'.length ≤ es.length ∧ (∀ x, x ∈ es' → x ∈ es) ∧ L.sI ≤ i' ∧ i' - L.sI ≤ L.ents.length ∧ ∀ (k : Nat) x, es'[k]? = some x → x.index = i' + 1 + k

theorem followB_index : ∀ (es : List Ent) (a t : Int), followB a t es = true → ∀ (k : Nat) x, es[k]? = some x → x.index = a + k
  | [], _, _, _, k, x, hx => by simp at hx
  | e :: es, a, t, h, 0, x, hx => by
    simp only [followB, Bool.and_eq_true, decide_eq_true_eq] at h
    simp at hx; subst hx; rw [h.1.1.2]; simp
  | e :: es, a, t, h, k + 1, x, hx => by
    simp only [followB, Bool.and_eq_true, decide_eq_true_eq] at h
    have := followB_index es _ _ h.2 k x (by simpa using hx)
    rw [this]; omega

theorem slice_ents {B B2 : Nat → Prop} {w : World} {A0 : Option Addr} {n0 c0 : Nat} {es : List Ent} (hv : EntsAt B B2 w (.slice A0 n0 c0) es) (k : Int) (h0 : 0 ≤ k) (h1 : k ≤ n0) :
    ∃ A' n' c', (∀ W, (Instr.slice 43 (.slice A0 n0 c0) (some (.int .i64 k)) none none).run Try.prog W = .ok (.slice A' n' c') W) ∧ EntsAt B B2 w (.slice A' n' c') (es.drop k.toNat) :=
  ⟨_, _, _, fun W => run_slice_ents W A0 n0 c0 k h0 h1, SliceOf.cut hv (k := k.toNat) (by omega)⟩

theorem lay_keep {L : LogM} {x old : Ent} {r : List Ent} (h : L.entry x.index = some old) (ht : old.term = x.term) : L.lay (x :: r) = L.lay r := by
  rw [LogM.lay, h]; dsimp only; rw [if_pos ht]
theorem lay_bad {L : LogM} {x old : Ent} {r : List Ent} (h : L.entry x.index = some old) (ht : ¬ old.term = x.term) (hc : x.index ≤ L.commit) : L.lay (x :: r) = none := by
  rw [LogM.lay, h]; dsimp only; rw [if_neg ht, if_pos hc]
theorem lay_cut {L : LogM} {x old : Ent} {r : List Ent} (h : L.entry x.index = some old) (ht : ¬ old.term = x.term) (hc : ¬ x.index ≤ L.commit) :
    L.lay (x :: r) = some { L with ents := L.ents.take (x.index - L.sI - 1).toNat ++ (x :: r) } := by
  rw [LogM.lay, h]; dsimp only; rw [if_neg ht, if_neg hc]
theorem lay_end {L : LogM} {x : Ent} {r : List Ent} (h : L.entry x.index = none) : L.lay (x :: r) = some { L with ents := L.ents.take (x.index - L.sI - 1).toNat ++ (x :: r) } := by
  rw [LogM.lay, h]

theorem offer_step {o : Own} {kl : Nat} {b : Nat} {L : LogM} {w w3 : World} {es : List Ent} {A3 : Option Addr} {c3 m : Nat} (h : LogAt o kl w b L) (hw : Wf o w) (h0 : kl ≠ 0) (hb : Below w.heap.size w w3) (hl : L.ents.length ≤ 20000) (hel : es.length ≤ 20000)
    (hD : EntsAt (From w.heap.size) (From w.heap.size) w3 (.slice A3 es.length c3) es) (hm : m ≤ L.ents.length) {g0 : Nat} {cs : List Value} (hg : Blk w3 g0 63 cs) (hg0 : w.heap.size ≤ g0) {A n c A2 n2 c2} (hc : ∀ i, w.cell? ⟨b, i, none⟩ = [.int .i64 L.sI, .int .i64 L.sT, .slice A n c, .slice A2 n2 c2, .int .i64 L.commit][i]?) :
    ∃ v' w', (Builtin.append_ #[43, 43] 43 #[.slice A2 m m, .slice A3 es.length c3]).run Try.prog w3 = .ok v' w' ∧
      ∃ A' n' c', v' = .slice A' n' c' ∧ (∀ i, w'.cell? ⟨b, i, none⟩ = [.int .i64 L.sI, .int .i64 L.sT, .slice A n c, .slice A2 n2 c2, .int .i64 L.commit][i]?) ∧ (∀ i, w'.frozen? ⟨b, i, none⟩ = false) ∧ (∀ i, w'.cell? ⟨g0, i, none⟩ = cs[i]?) ∧
        Hid (∃ o', LogAt o' kl (w'.setCell ⟨b, 3, none⟩ v') b { L with ents := L.ents.take m ++ es } ∧ Ext [kl] o o' w (w'.setCell ⟨b, 3, none⟩ v')) := by
  obtain ⟨A', n', c', A2', n2', c2', hb0, ho, hmm, hr⟩ := h
  have hbl := hb0.lt
  have e1 : Ext [] o o w w3 := Ext.of_below hb hw
  have q1 := hb0.cells 3
  have q2 := hb0.cells 2
  rw [hc] at q1 q2
  simp only [logCells, List.getElem?_cons_succ, List.getElem?_cons_zero, Option.some.injEq, Value.slice.injEq] at q1 q2
  obtain ⟨rfl, rfl, rfl⟩ := q1
  obtain ⟨rfl, rfl, rfl⟩ := q2
  have hr1 := (hr.stays (e1.stays (k := kl) (by simp)) (fun _ _ => EntR.stays (e1.stays (k := 0) (by simp)))).clip (m := m) (by have := hr.slice.len.1; omega)
  have hs : EntsAt (From w.heap.size) (Of o 0) w3 (.slice A3 es.length c3) es := EntsAt.stays hD (Stays.refl _ w3) (Stays.weak _ fun b hb => hw b hb)
  obtain ⟨v', w', h1, o', h2, h3, h4⟩ := append_ents 43 h0 hr1 hs (by simp; omega)
  obtain ⟨A5, c5, rfl, _⟩ := h2.form
  have B1 : Blk w' b 70 (logCells L (.slice A n c) (.slice A2 n2 c2)) := h4 _ _ _ (e1.blk hb0 (by simp)) (by simp)
  have B2 : Blk w' g0 63 cs := h3.blk hg (by rw [hw g0 hg0]; simpa using h0.symm)
  have e2 := (e1.mono (S' := [kl]) (by simp)).trans h3
  refine ⟨_, w', h1, A5, _, c5, rfl, B1.cells, B1.frozens, B2.cells, o', ?_, e2.setCell (.inr (by simp [ho])) _⟩
  have hst : Stays (Of o' 0) (Of o' 0) w' (w'.setCell ⟨b, 3, none⟩ (.slice A5 (L.ents.take m ++ es).length c5)) := (Stays.refl _ w').setCell (by simp only [Of]; rw [e2.own b hbl, ho]; exact h0) _
  exact ⟨A, n, c, A5, _, c5, B1.set_ 3 _, (e2.own b hbl).trans ho, IntsAt.stays hmm ((e2.stays (by simpa using h0.symm)).trans hst), h2.far B1 (by simp) _ fun _ _ => EntR.stays hst⟩

theorem run_slice_hm43 (W : World) (A : Option Addr) (n c : Nat) (m : Int) (h0 : 0 ≤ m) (h1 : m ≤ c) :
    (Instr.slice 43 (.slice A n c) none (some (.int .i64 m)) (some (.int .i64 m))).run Try.prog W = .ok (.slice A m.toNat m.toNat) W := by
  obtain ⟨i, hi, _⟩ := parts_ent
  have e : ((m.toNat : Nat) : Int) = m := Int.toNat_of_nonneg h0
  simp [Instr.slice, run_underlying Try.underlying43, Instr.sliceBounds, run_sliceBound, sizeOf, typeInfo, hi, h0, h1, e]
  intro _
  cases A <;> simp [Addr.add]

structure MsgEnts (es : List Ent) : Prop where
  len : es.length ≤ 1000
  ent : ∀ x, x ∈ es → x.Ok

set_option maxRecDepth 100000 in
set_option maxHeartbeats 4000000 in
theorem offer72 (o : Own) (kl : Nat) (b : Nat) (L : LogM) (i t : Int) (es : List Ent) (A0 : Option Addr) (n0 c0 : Nat) (B B2 : Nat → Prop) (w : World) (hLg : LogAt o kl w b L) (hok : L.Ok) (hw : Wf o w) (h0 : kl ≠ 0) (hi0 : 0 ≤ i) (hi1 : i ≤ 60000)
    (hv : EntsAt B B2 w (.slice A0 n0 c0) es) (hes : MsgEnts es) :
    Calls Try.prog 72 #[.pointer (some ⟨b, 0, none⟩), .int .i64 i, .int .i64 t, .slice A0 n0 c0] w (OfferIs o kl b L i t es w) := by
  have hl := hok.len
  have HOK := Lib.hid hok
  have HES := Lib.hid hes
  have hel : es.length ≤ 20000 := by have := hes.len; omega
  have hed : ∀ (k : Nat) (hk : k < es.length), es[k].data.length ≤ 30000 := fun k hk => by have := (hes.ent _ (List.getElem_mem hk)).d; omega
  have HED := Lib.hid hed
  have hn0 := hv.len.1
  have HN0 := Lib.hid hn0
  clear hok hes hed hn0
  have HBAD : Hid ((okCount i && okCount t && followB (i + 1) t es) = false → L.offer i t es = (0, false, 1, L)) := offer_bad
  obtain ⟨A, n, c, A2, n2, c2, hc, hf, hb, hn2, hc2, hM, hE⟩ := hLg.open_
  have HN2 := Lib.hid hn2
  have HCC := Lib.hid hc
  clear hn2 hc
  go_enter Try.func72, Try.ntmps72
  go_upto_if 41 with (first
        | (go_at_call 86; refine (count86 _ _).mono ?_; rintro e w' ⟨rfl, hx⟩; obtain rfl := hx.symm; clear hx)
        | (go_at_call 84; refine (follow84 i t _ es B B2 _ hv hel HED.out hi0 hi1).mono ?_; rintro e w1 ⟨rfl, hb1⟩; have k1 := (keeps hb1 hb HCC.out hf).1))
  all_goals try
    (go_ret3
     have hbad := HBAD.out (by simp_all)
     first
       | exact ⟨o, by rw [hbad]; rfl, by rw [hbad]; exact hLg, Ext.refl _ _ _⟩
       | exact ⟨o, by rw [hbad]; rfl, by rw [hbad]; exact hLg.below hb1, Ext.of_below hb1 hw⟩)
  have hgood : Hid ((okCount i && okCount t && followB (i + 1) t es) = true) := by unfold Hid; simp_all
  have HIX : Hid (∀ (k : Nat) x, es[k]? = some x → x.index = i + 1 + k) := followB_index es _ t (by have := hgood.out; simp only [Bool.and_eq_true] at this; exact this.2)
  go_cut [1, 3] (fun s1 s3 wx => Hid (OfferMid L i t es B B2 w s1 s3 wx))
  case first =>
    have s0 := HOK.out.i0
    have s1 := HOK.out.i1
    by_cases hlo : i < L.sI
    · by_cases hmin : n0 < L.sI - i
      · obtain ⟨A', n', c', hsl, hv'⟩ := slice_ents hv n0 (by omega) (by omega)
        have hn' := hv'.len.1
        rw [List.length_drop, ← HN0.out] at hn'
        obtain rfl : n' = 0 := by simp at hn'; omega
        have HO : Hid (∀ nq, Hid (OfferMid L i t es B B2 w (.int .i64 L.sI) (.slice A' 0 c') (w1.drewN nq))) := by
          intro nq
          have hz : es.drop (min (L.sI - i) es.length).toNat = [] := by rw [List.drop_eq_nil_iff, ← HN0.out]; omega
          refine ⟨L.sI, [], A', 0, c', rfl, rfl, SliceOf.empty _ _, ?_, s0, by omega, below_drewN hb1 nq, by simp, by simp, Int.le_refl _, by omega, by simp⟩
          rw [offer_low hgood.out hlo (by rw [hz]; simp), hz]
        clear hn'
        go_wp2
        go_quiet (fail)
        go_wp2
        go_meet
        exact HO.out _
      by_cases hmin2 : L.sI - i = n0
      · obtain ⟨A', n', c', hsl, hv'⟩ := slice_ents hv (L.sI - i) (by omega) (by omega)
        have hn' := hv'.len.1
        rw [List.length_drop, ← HN0.out] at hn'
        obtain rfl : n' = 0 := by omega
        have HO : Hid (∀ nq, Hid (OfferMid L i t es B B2 w (.int .i64 L.sI) (.slice A' 0 c') (w1.drewN nq))) := by
          intro nq
          have hz : es.drop (min (L.sI - i) es.length).toNat = [] := by rw [List.drop_eq_nil_iff, ← HN0.out]; omega
          refine ⟨L.sI, [], A', 0, c', rfl, rfl, SliceOf.empty _ _, ?_, s0, by omega, below_drewN hb1 nq, by simp, by simp, Int.le_refl _, by omega, by simp⟩
          rw [offer_low hgood.out hlo (by rw [hz]; simp), hz]
        have hsl' : ∀ W, (Instr.slice 43 (.slice A0 n0 c0) (some (.int .i64 (n0 : Int))) none none).run Try.prog W = .ok (.slice A' 0 c') W := by rw [← hmin2]; exact hsl
        have hm3 : (n0 : Int) ≤ L.sI - i := by omega
        clear hn' hmin2
        go_wp2
        all_goals
          go_quiet (fail)
          go_wp2
          go_meet
          exact HO.out _
      · obtain ⟨A', n', c', hsl, hv'⟩ := slice_ents hv (L.sI - i) (by omega) (by omega)
        have hn' := hv'.len.1
        rw [List.length_drop, ← HN0.out] at hn'
        have hd : es.drop (min (L.sI - i) es.length).toNat = es.drop (L.sI - i).toNat := by rw [← HN0.out]; congr 2; omega
        obtain ⟨x, hx⟩ : ∃ x, (es.drop (L.sI - i).toNat)[0]? = some x := ⟨_, List.getElem?_eq_getElem (by rw [List.length_drop, ← HN0.out]; omega)⟩
        obtain ⟨g, off, A3, n3, c3, rfl, hg, q0, q1, q2, q3, hD⟩ := EntsAt.at? (EntsAt.stays hv' (Stays.of_below hb1) (Stays.of_below hb1)) hx
        simp only [Nat.zero_mul, Nat.add_zero] at q0 q1 q2 q3
        have hpos : (0 : Int) < n' := by omega
        have hpos2 : 0 < n' := by omega
        clear hn'
        have hhead : (es.drop (L.sI - i).toNat).head? = some x := by rw [← hx, List.head?_eq_getElem?]
        by_cases hterm : x.term < L.sT
        · have HB := Lib.hid (offer_lowbad hgood.out hlo (by rw [hd]; exact hhead) hterm)
          clear hx hhead hd
          go_wp2
          go_quiet (fail)
          go_wp2
          go_ret3
          exact ⟨o, by rw [HB.out]; rfl, by rw [HB.out]; exact hLg.below (below_drewN hb1 _), Ext.of_below (below_drewN hb1 _) hw⟩
        · have HO : Hid (∀ nq, Hid (OfferMid L i t es B B2 w (.int .i64 L.sI) (.slice (some ⟨g, off, none⟩) n' c') (w1.drewN nq))) := by
            intro nq
            refine ⟨L.sI, es.drop (L.sI - i).toNat, _, n', c', rfl, rfl, hv', ?_, s0, by omega, below_drewN hb1 nq, by rw [List.length_drop]; omega, fun x hx => List.mem_of_mem_drop hx, Int.le_refl _, by omega, fun k x hx => ?_⟩
            · rw [offer_low hgood.out hlo (by rw [hd, hhead]; intro e he; injection he with he; subst he; exact hterm), hd]
            · rw [List.getElem?_drop] at hx
              have := HIX.out _ _ hx
              omega
          clear hx hhead hd
          go_wp2
          go_quiet (fail)
          go_wp2
          go_meet
          exact HO.out _
    · have HGE := Lib.hid hlo
      by_cases hat : L.termAt i = some t
      · obtain ⟨hcode, hval⟩ := termCode_some hat
        have HO : Hid (∀ w2, Below w.heap.size w w2 → Hid (OfferMid L i t es B B2 w (.int .i64 i) (.slice A0 n0 c0) w2)) := by
          intro w2 hb2
          exact ⟨i, es, A0, n0, c0, rfl, rfl, hv, offer_at hgood.out hlo hat, hi0, hi1, hb2, Nat.le_refl _, fun _ h => h, by omega, (termAt_range hat).2, fun k x hx => HIX.out k x hx⟩
        clear hat
        go_wp2_with fail
        refine (term47 o kl b L i _ (hLg.below hb1) hl HOK.out.i0 HOK.out.i1 hi0 (by omega)).mono ?_
        rintro e w2 ⟨rfl, hb2⟩
        rw [hcode, hval]
        clear hcode hval
        have hb12 : Below w.heap.size w w2 := hb1.trans (hb2.mono hb1.size)
        go_wp2
        go_meet
        exact HO.out _ hb12
      · have HNO := Lib.hid (offer_no hgood.out hlo hat)
        have hg : (termCode L i != 0) = true ∨ ((termCode L i != 0) = false ∧ (termVal L i != t) = true) := by
          cases hq : L.termAt i with
          | none => left; rw [(termCode_none hq).1]; rfl
          | some t' =>
            right
            rw [(termCode_some hq).1, (termCode_some hq).2]
            refine ⟨rfl, ?_⟩
            rw [bne_iff_ne]
            rintro rfl
            exact hat hq
        clear hat
        go_wp2_with fail
        refine (term47 o kl b L i _ (hLg.below hb1) hl HOK.out.i0 HOK.out.i1 hi0 (by omega)).mono ?_
        rintro e w2 ⟨rfl, hb2⟩
        generalize termCode L i = cd at *
        generalize termVal L i = vl at *
        have hb12 : Below w.heap.size w w2 := hb1.trans (hb2.mono hb1.size)
        rcases hg with hg | ⟨hg1, hg2⟩
        all_goals
          go_wp2_with fail
          refine (last28 o kl b L _ (hLg.below hb12) hl).mono ?_
          rintro e w3 ⟨rfl, hb3⟩
          have hb13 : Below w.heap.size w w3 := hb12.trans (hb3.mono hb12.size)
          have k3 := (keeps hb13 hb HCC.out hf).1
          have g1 : 0 ≤ L.last.1 := by rw [HOK.out.last1]; have := HOK.out.i0; omega
          have g2 : L.last.1 ≤ 60000 := by rw [HOK.out.last1]; have := HOK.out.i1; omega
          have gc : L.commit ≤ 60000 := by have := HOK.out.c1; omega
          have gc0 : 0 ≤ L.commit := by have := HOK.out.c0; omega
          generalize L.last.1 = li at *
          generalize L.last.2 = lt at *
          go_wp2
          all_goals
            go_ret3
            exact ⟨o, by rw [HNO.out]; simp; omega, by rw [HNO.out]; exact hLg.below hb13, Ext.of_below hb13 hw⟩
  case rest =>
    obtain ⟨i', es', A', n', c', rfl, rfl, hv', hoff, hi0', hi1', hbc, hle, hsub, hr0, hr1, hix⟩ := hcut.out
    have HN' := Lib.hid hv'.len.1
    have HC' := hv'.len.2
    have hn1 : n' ≤ 1000 := by have := HES.out.len; have := HN'.out; omega
    have HOFF := Lib.hid hoff
    have HIX' := Lib.hid hix
    have HSUB := Lib.hid hsub
    clear hoff hcut hix hsub k1
    go_wp2
    go_loopw [107] (fun z wr => ∃ k : Nat, k ≤ n' ∧ z = .int .i64 k ∧ Hid (L.lay es' = L.lay (es'.drop k)) ∧ i' + k - L.sI ≤ L.ents.length ∧ Below w.heap.size w wr) (fun z _ => n' - (intOf z).toNat)
    case atStart => exact ⟨0, Nat.zero_le _, rfl, by unfold Hid; simp, by omega, hbc⟩
    case round =>
      obtain ⟨k, hk, rfl, HI, hik, hbel⟩ := hrel
      by_cases hlt : k < n'
      · obtain ⟨x, hx⟩ : ∃ x, es'[k]? = some x := ⟨_, List.getElem?_eq_getElem (by have := HN'.out; omega)⟩
        obtain ⟨g, off, A3, n3, c3, rfl, hg, q0, q1, q2, q3, hD⟩ := EntsAt.at? (EntsAt.stays hv' (Stays.of_below hbel) (Stays.of_below hbel)) hx
        have hxi : x.index = i' + 1 + k := HIX'.out k x hx
        have HXI := Lib.hid hxi
        have hxok := HES.out.ent x (HSUB.out x (List.mem_of_getElem? hx))
        have hdrop : es'.drop k = x :: es'.drop (k + 1) := by
          obtain ⟨hk', rfl⟩ := List.getElem?_eq_some_iff.1 hx
          exact List.drop_eq_getElem_cons hk'
        have HDR := Lib.hid hdrop
        have gx0 : 0 ≤ x.index := by omega
        have gx1 : x.index ≤ 70000 := by omega
        have gx2 : 0 ≤ x.index - L.sI - 1 := by omega
        have gx3 : x.index - L.sI - 1 ≤ L.ents.length := by omega
        clear hx hdrop hxi
        have hbB : Below wr.heap.size wr (wr.alloc (.cells #[.int .i64 x.index, .int .i64 x.term, .int .i64 x.kind, .slice A3 n3 c3] 63)) := (Below.refl _ _).alloc (Nat.le_refl _) _
        go_wp2_with fail
        refine (entry53 o kl b L x.index _ (hLg.below (hbel.trans (hbB.mono hbel.size))) hl HOK.out.i0 HOK.out.i1 gx0 (by omega)).mono ?_
        rintro e w1 ⟨hb2, hcase⟩
        obtain ⟨kx, fx, sx, hb3⟩ := kept_new hb2
        have hb13 : Below w.heap.size w w1 := hbel.trans (hb3.mono hbel.size)
        rcases hcase with ⟨hn, rfl⟩ | ⟨old, A4, n4, c4, hn, rfl, hD4⟩
        · have HLAY : Hid (L.offerAt i' es' = (i' + n', true, 0, { L with ents := L.ents.take (x.index - L.sI - 1).toNat ++ es'.drop k })) := by
            unfold Hid LogM.offerAt
            rw [HI.out, HDR.out, lay_end hn, ← HN'.out]
          clear hn
          go_wp2
          go_quiet (fail)
          go_wp2
          have BX : Hid (Blk w1 wr.heap.size 63 [.int .i64 x.index, .int .i64 x.term, .int .i64 x.kind, .slice A3 n3 c3]) := ((Blk.new wr 63 _)).same (hb2.block wr.heap.size (by simp))
          refine (fun (H : ∀ W : World, Below w.heap.size w W → Blk W wr.heap.size 63 [.int .i64 x.index, .int .i64 x.term, .int .i64 x.kind, .slice A3 n3 c3] → Code.wp Try.prog _ _ _ W) => H _ ?_ ?_) ?_
          · exact below_drewN (hb13.alloc hb13.size _) _
          · exact BX.out.alloc _
          clear kx fx sx hb3 hb13 hb2 BX q0 q1 q2 q3 hbB
          intro W hbW hBW
          -- BLOCK20 a
          have kW := (keeps hbW hb HCC.out hf).1
          have kX := hBW.cells
          have hS : (fun w' : World => (∀ i, w'.cell? ⟨b, i, none⟩ = [.int .i64 L.sI, .int .i64 L.sT, .slice A n c, .slice A2 n2 c2, .int .i64 L.commit][i]?) ∧ (∀ i, w'.cell? ⟨wr.heap.size, i, none⟩ = [.int .i64 x.index, .int .i64 x.term, .int .i64 x.kind, .slice A3 n3 c3][i]?)) W.drew := ⟨kW, kX⟩
          obtain ⟨A5, n5, c5, hsl1, hv5⟩ := slice_ents hv' k (by omega) (by omega)
          have hm2 : x.index - L.sI - 1 ≤ c2 := by have := HN2.out; omega
          have hsl2 := fun W => run_slice_hm43 W A2 n2 c2 (x.index - L.sI - 1) gx2 hm2
          have e1 : IntKind.i64.wrap (x.index - L.sI) = x.index - L.sI := IntWalk.i64_in _ (by omega)
          have e2 : IntKind.i64.wrap (x.index - L.sI - 1) = x.index - L.sI - 1 := IntWalk.i64_in _ (by omega)
          refine wp_region_T 31 (fun w' : World => (∀ i, w'.cell? ⟨b, i, none⟩ = [.int .i64 L.sI, .int .i64 L.sT, .slice A n c, .slice A2 n2 c2, .int .i64 L.commit][i]?) ∧ (∀ i, w'.cell? ⟨wr.heap.size, i, none⟩ = [.int .i64 x.index, .int .i64 x.term, .int .i64 x.kind, .slice A3 n3 c3][i]?)) (by kernel_rfl) ?_
          refine anyT_takeL (i := 0) (v := ?va0) rfl (by kernel_rfl) (by kernel_rfl) (by kernel_rfl) (by kernel_rfl) (by kernel_rfl) (fun _ _ _ h => h) (Or.inl ⟨by rfl, fun wS hSw => ?hya0⟩) hS ?rea0
          case hya0 => (dsimp only at hSw; obtain ⟨hS1, hS2⟩ := hSw; go_simp; try with_reducible rfl)
          try simp only [Act.put, List.setIfInBounds_toArray, List.set_cons_zero, List.set_cons_succ]
          refine anyT_takeL (i := 1) (v := ?va1) rfl (by kernel_rfl) (by kernel_rfl) (by kernel_rfl) (by kernel_rfl) (by kernel_rfl) (fun _ _ _ h => h) (Or.inl ⟨by rfl, fun wS hSw => ?hya1⟩) hS ?rea1
          case hya1 => (dsimp only at hSw; obtain ⟨hS1, hS2⟩ := hSw; go_simp; try with_reducible rfl)
          try simp only [Act.put, List.setIfInBounds_toArray, List.set_cons_zero, List.set_cons_succ]
          refine anyT_takeL (i := 2) (v := ?va2) rfl (by kernel_rfl) (by kernel_rfl) (by kernel_rfl) (by kernel_rfl) (by kernel_rfl) (fun _ _ _ h => h) (Or.inl ⟨by rfl, fun wS hSw => ?hya2⟩) hS ?rea2
          case hya2 => (dsimp only at hSw; obtain ⟨hS1, hS2⟩ := hSw; go_simp; try with_reducible rfl)
          try simp only [Act.put, List.setIfInBounds_toArray, List.set_cons_zero, List.set_cons_succ]
          refine anyT_takeL (i := 3) (v := ?va3) rfl (by kernel_rfl) (by kernel_rfl) (by kernel_rfl) (by kernel_rfl) (by kernel_rfl) (fun _ _ _ h => h) (Or.inl ⟨by rfl, fun wS hSw => ?hya3⟩) hS ?rea3
          case hya3 => (dsimp only at hSw; obtain ⟨hS1, hS2⟩ := hSw; go_simp; try with_reducible rfl)
          try simp only [Act.put, List.setIfInBounds_toArray, List.set_cons_zero, List.set_cons_succ]
          refine anyT_takeL (i := 4) (v := ?va4) rfl (by kernel_rfl) (by kernel_rfl) (by kernel_rfl) (by kernel_rfl) (by kernel_rfl) (fun _ _ _ h => h) (Or.inl ⟨by rfl, fun wS hSw => ?hya4⟩) hS ?rea4
          case hya4 => (dsimp only at hSw; obtain ⟨hS1, hS2⟩ := hSw; go_simp; try with_reducible rfl)
          try simp only [Act.put, List.setIfInBounds_toArray, List.set_cons_zero, List.set_cons_succ]
          refine anyT_takeL (i := 5) (v := ?va5) rfl (by kernel_rfl) (by kernel_rfl) (by kernel_rfl) (by kernel_rfl) (by kernel_rfl) (fun _ _ _ h => h) (Or.inl ⟨by rfl, fun wS hSw => ?hya5⟩) hS ?rea5
          case hya5 => (dsimp only at hSw; obtain ⟨hS1, hS2⟩ := hSw; go_simp; try with_reducible rfl)
          try simp only [Act.put, List.setIfInBounds_toArray, List.set_cons_zero, List.set_cons_succ]
          refine anyT_takeL (i := 6) (v := ?va6) rfl (by kernel_rfl) (by kernel_rfl) (by kernel_rfl) (by kernel_rfl) (by kernel_rfl) (fun _ _ _ h => h) (Or.inl ⟨by rfl, fun wS hSw => ?hya6⟩) hS ?rea6
          case hya6 => (dsimp only at hSw; obtain ⟨hS1, hS2⟩ := hSw; go_simp; try with_reducible rfl)
          try simp only [Act.put, List.setIfInBounds_toArray, List.set_cons_zero, List.set_cons_succ]
          refine anyT_takeL (i := 7) (v := ?va7) rfl (by kernel_rfl) (by kernel_rfl) (by kernel_rfl) (by kernel_rfl) (by kernel_rfl) (fun _ _ _ h => h) (Or.inl ⟨by rfl, fun wS hSw => ?hya7⟩) hS ?rea7
          case hya7 => (dsimp only at hSw; obtain ⟨hS1, hS2⟩ := hSw; go_simp; try with_reducible rfl)
          try simp only [Act.put, List.setIfInBounds_toArray, List.set_cons_zero, List.set_cons_succ]
          refine anyT_takeL (i := 8) (v := ?va8) rfl (by kernel_rfl) (by kernel_rfl) (by kernel_rfl) (by kernel_rfl) (by kernel_rfl) (fun _ _ _ h => h) (Or.inl ⟨by rfl, fun wS hSw => ?hya8⟩) hS ?rea8
          case hya8 => (dsimp only at hSw; obtain ⟨hS1, hS2⟩ := hSw; go_simp; try with_reducible rfl)
          try simp only [Act.put, List.setIfInBounds_toArray, List.set_cons_zero, List.set_cons_succ]
          refine anyT_takeL (i := 9) (v := ?va9) rfl (by kernel_rfl) (by kernel_rfl) (by kernel_rfl) (by kernel_rfl) (by kernel_rfl) (fun _ _ _ h => h) (Or.inl ⟨by rfl, fun wS hSw => ?hya9⟩) hS ?rea9
          case hya9 => (dsimp only at hSw; obtain ⟨hS1, hS2⟩ := hSw; go_simp; try with_reducible rfl)
          try simp only [Act.put, List.setIfInBounds_toArray, List.set_cons_zero, List.set_cons_succ]
          refine anyT_takeL (i := 10) (v := ?va10) rfl (by kernel_rfl) (by kernel_rfl) (by kernel_rfl) (by kernel_rfl) (by kernel_rfl) (fun _ _ _ h => h) (Or.inl ⟨by rfl, fun wS hSw => ?hya10⟩) hS ?rea10
          case hya10 => (dsimp only at hSw; obtain ⟨hS1, hS2⟩ := hSw; go_simp; try with_reducible rfl)
          try simp only [Act.put, List.setIfInBounds_toArray, List.set_cons_zero, List.set_cons_succ]
          refine anyT_takeL (i := 11) (v := ?va11) rfl (by kernel_rfl) (by kernel_rfl) (by kernel_rfl) (by kernel_rfl) (by kernel_rfl) (fun _ _ _ h => h) (Or.inl ⟨by rfl, fun wS hSw => ?hya11⟩) hS ?rea11
          case hya11 => (dsimp only at hSw; obtain ⟨hS1, hS2⟩ := hSw; go_simp; try with_reducible rfl)
          try simp only [Act.put, List.setIfInBounds_toArray, List.set_cons_zero, List.set_cons_succ]
          refine anyT_takeL (i := 12) (v := ?va12) rfl (by kernel_rfl) (by kernel_rfl) (by kernel_rfl) (by kernel_rfl) (by kernel_rfl) (fun _ _ _ h => h) (Or.inl ⟨by rfl, fun wS hSw => ?hya12⟩) hS ?rea12
          case hya12 => (dsimp only at hSw; obtain ⟨hS1, hS2⟩ := hSw; go_simp; try with_reducible rfl)
          try simp only [Act.put, List.setIfInBounds_toArray, List.set_cons_zero, List.set_cons_succ]
          refine anyT_takeL (i := 13) (v := ?va13) rfl (by kernel_rfl) (by kernel_rfl) (by kernel_rfl) (by kernel_rfl) (by kernel_rfl) (fun _ _ _ h => h) (Or.inl ⟨by rfl, fun wS hSw => ?hya13⟩) hS ?rea13
          case hya13 => (dsimp only at hSw; obtain ⟨hS1, hS2⟩ := hSw; go_simp; try with_reducible rfl)
          try simp only [Act.put, List.setIfInBounds_toArray, List.set_cons_zero, List.set_cons_succ]
          refine anyT_takeL (i := 14) (v := ?va14) rfl (by kernel_rfl) (by kernel_rfl) (by kernel_rfl) (by kernel_rfl) (by kernel_rfl) (fun _ _ _ h => h) (Or.inl ⟨by rfl, fun wS hSw => ?hya14⟩) hS ?rea14
          case hya14 => (dsimp only at hSw; obtain ⟨hS1, hS2⟩ := hSw; go_simp; try with_reducible rfl)
          try simp only [Act.put, List.setIfInBounds_toArray, List.set_cons_zero, List.set_cons_succ]
          refine anyT_takeL (i := 15) (v := ?va15) rfl (by kernel_rfl) (by kernel_rfl) (by kernel_rfl) (by kernel_rfl) (by kernel_rfl) (fun _ _ _ h => h) (Or.inl ⟨by rfl, fun wS hSw => ?hya15⟩) hS ?rea15
          case hya15 => (dsimp only at hSw; obtain ⟨hS1, hS2⟩ := hSw; go_simp; try with_reducible rfl)
          try simp only [Act.put, List.setIfInBounds_toArray, List.set_cons_zero, List.set_cons_succ]
          refine anyT_takeL (i := 16) (v := ?va16) rfl (by kernel_rfl) (by kernel_rfl) (by kernel_rfl) (by kernel_rfl) (by kernel_rfl) (fun _ _ _ h => h) (Or.inl ⟨by rfl, fun wS hSw => ?hya16⟩) hS ?rea16
          case hya16 => (dsimp only at hSw; obtain ⟨hS1, hS2⟩ := hSw; go_simp; try with_reducible rfl)
          try simp only [Act.put, List.setIfInBounds_toArray, List.set_cons_zero, List.set_cons_succ]
          refine anyT_takeL (i := 17) (v := ?va17) rfl (by kernel_rfl) (by kernel_rfl) (by kernel_rfl) (by kernel_rfl) (by kernel_rfl) (fun _ _ _ h => h) (Or.inl ⟨by rfl, fun wS hSw => ?hya17⟩) hS ?rea17
          case hya17 => (dsimp only at hSw; obtain ⟨hS1, hS2⟩ := hSw; go_simp; try with_reducible rfl)
          try simp only [Act.put, List.setIfInBounds_toArray, List.set_cons_zero, List.set_cons_succ]
          refine anyT_takeL (i := 18) (v := ?va18) rfl (by kernel_rfl) (by kernel_rfl) (by kernel_rfl) (by kernel_rfl) (by kernel_rfl) (fun _ _ _ h => h) (Or.inl ⟨by rfl, fun wS hSw => ?hya18⟩) hS ?rea18
          case hya18 => (dsimp only at hSw; obtain ⟨hS1, hS2⟩ := hSw; go_simp; try with_reducible rfl)
          try simp only [Act.put, List.setIfInBounds_toArray, List.set_cons_zero, List.set_cons_succ]
          refine anyT_takeL (i := 19) (v := ?va19) rfl (by kernel_rfl) (by kernel_rfl) (by kernel_rfl) (by kernel_rfl) (by kernel_rfl) (fun _ _ _ h => h) (Or.inl ⟨by rfl, fun wS hSw => ?hya19⟩) hS ?rea19
          case hya19 => (dsimp only at hSw; obtain ⟨hS1, hS2⟩ := hSw; go_simp; try with_reducible rfl)
          try simp only [Act.put, List.setIfInBounds_toArray, List.set_cons_zero, List.set_cons_succ]
          refine anyT_takeL (i := 20) (v := ?va20) rfl (by kernel_rfl) (by kernel_rfl) (by kernel_rfl) (by kernel_rfl) (by kernel_rfl) (fun _ _ _ h => h) (Or.inl ⟨by rfl, fun wS hSw => ?hya20⟩) hS ?rea20
          case hya20 => (dsimp only at hSw; obtain ⟨hS1, hS2⟩ := hSw; go_simp; try with_reducible rfl)
          try simp only [Act.put, List.setIfInBounds_toArray, List.set_cons_zero, List.set_cons_succ]
          refine anyT_takeL (i := 21) (v := ?va21) rfl (by kernel_rfl) (by kernel_rfl) (by kernel_rfl) (by kernel_rfl) (by kernel_rfl) (fun _ _ _ h => h) (Or.inl ⟨by rfl, fun wS hSw => ?hya21⟩) hS ?rea21
          case hya21 => (dsimp only at hSw; obtain ⟨hS1, hS2⟩ := hSw; go_simp; try with_reducible rfl)
          try simp only [Act.put, List.setIfInBounds_toArray, List.set_cons_zero, List.set_cons_succ]
          refine anyT_takeL (i := 22) (v := ?va22) rfl (by kernel_rfl) (by kernel_rfl) (by kernel_rfl) (by kernel_rfl) (by kernel_rfl) (fun _ _ _ h => h) (Or.inl ⟨by rfl, fun wS hSw => ?hya22⟩) hS ?rea22
          case hya22 => (dsimp only at hSw; obtain ⟨hS1, hS2⟩ := hSw; go_simp; try with_reducible rfl)
          try simp only [Act.put, List.setIfInBounds_toArray, List.set_cons_zero, List.set_cons_succ]
          refine anyT_takeL (i := 23) (v := ?va23) rfl (by kernel_rfl) (by kernel_rfl) (by kernel_rfl) (by kernel_rfl) (by kernel_rfl) (fun _ _ _ h => h) (Or.inl ⟨by rfl, fun wS hSw => ?hya23⟩) hS ?rea23
          case hya23 => (dsimp only at hSw; obtain ⟨hS1, hS2⟩ := hSw; go_simp; try with_reducible rfl)
          try simp only [Act.put, List.setIfInBounds_toArray, List.set_cons_zero, List.set_cons_succ]
          refine anyT_takeL (i := 24) (v := ?va24) rfl (by kernel_rfl) (by kernel_rfl) (by kernel_rfl) (by kernel_rfl) (by kernel_rfl) (fun _ _ _ h => h) (Or.inl ⟨by rfl, fun wS hSw => ?hya24⟩) hS ?rea24
          case hya24 => (dsimp only at hSw; obtain ⟨hS1, hS2⟩ := hSw; go_simp; try with_reducible rfl)
          try simp only [Act.put, List.setIfInBounds_toArray, List.set_cons_zero, List.set_cons_succ]
          refine anyT_takeL (i := 25) (v := ?va25) rfl (by kernel_rfl) (by kernel_rfl) (by kernel_rfl) (by kernel_rfl) (by kernel_rfl) (fun _ _ _ h => h) (Or.inl ⟨by rfl, fun wS hSw => ?hya25⟩) hS ?rea25
          case hya25 => (dsimp only at hSw; obtain ⟨hS1, hS2⟩ := hSw; go_simp; try with_reducible rfl)
          try simp only [Act.put, List.setIfInBounds_toArray, List.set_cons_zero, List.set_cons_succ]
          refine anyT_takeL (i := 26) (v := ?va26) rfl (by kernel_rfl) (by kernel_rfl) (by kernel_rfl) (by kernel_rfl) (by kernel_rfl) (fun _ _ _ h => h) (Or.inl ⟨by rfl, fun wS hSw => ?hya26⟩) hS ?rea26
          case hya26 => (dsimp only at hSw; obtain ⟨hS1, hS2⟩ := hSw; go_simp; try with_reducible rfl)
          try simp only [Act.put, List.setIfInBounds_toArray, List.set_cons_zero, List.set_cons_succ]
          clear hsl1 hsl2 e1 e2
          rw [show (x.index - L.sI - 1).toNat = (x.index - L.sI).toNat - 1 by omega] at HLAY
          have hbD : Below w.heap.size w W.drew := below_drewN hbW 1
          have hBD : Blk W.drew wr.heap.size 63 [.int .i64 x.index, .int .i64 x.term, .int .i64 x.kind, .slice A3 n3 c3] := hBW
          have hv6 := EntsAt.stays hv5 (Stays.of_below hbD) (Stays.of_below hbD)
          have hlen6 : (es'.drop k).length ≤ 20000 := by rw [List.length_drop]; have := HN'.out; omega
          have hd6 : ∀ (i : Nat) (hi : i < (es'.drop k).length), (es'.drop k)[i].data.length ≤ 30000 := fun i hi => by have := (HES.out.ent _ (HSUB.out _ (List.mem_of_mem_drop (List.getElem_mem hi)))).d; omega
          have HD6 := Lib.hid hd6
          clear hd6
          refine anyT_oneL (i := 27) rfl (by kernel_rfl) ?_
          intro K hK
          go_simp
          refine (owned87 _ (es'.drop k) _ _ _ hv6 (by omega) HD6.out).mono ?_
          rintro e w5 ⟨A6, c6, rfl, hD6, hb5⟩
          have hb5' : Below w.heap.size w w5 := hbD.trans (hb5.mono hbD.size)
          have kb5 := (keeps hb5' hb HCC.out hf).1
          have hB5 : Blk w5 wr.heap.size 63 [.int .i64 x.index, .int .i64 x.term, .int .i64 x.kind, .slice A3 n3 c3] := hBD.same (hb5.block _ hBD.lt)
          dsimp only
          refine hK _ _ (.inr ⟨kb5, hB5.cells⟩) ?_
          clear hK K
          try simp only [Act.put, List.setIfInBounds_toArray, List.set_cons_zero, List.set_cons_succ]
          have hS : (fun w' : World => (∀ i, w'.cell? ⟨b, i, none⟩ = [.int .i64 L.sI, .int .i64 L.sT, .slice A n c, .slice A2 n2 c2, .int .i64 L.commit][i]?) ∧ (∀ i, w'.cell? ⟨wr.heap.size, i, none⟩ = [.int .i64 x.index, .int .i64 x.term, .int .i64 x.kind, .slice A3 n3 c3][i]?)) w5 := ⟨kb5, hB5.cells⟩
          have HA := Lib.hid (offer_step (m := (x.index - L.sI).toNat - 1) (es := es'.drop k) hLg hw h0 hb5' hl hlen6 (EntsAt.stays hD6 (Stays.weak _ fun b hb => Nat.le_trans hbD.size hb) (Stays.weak _ fun b hb => Nat.le_trans hbD.size hb)) (by omega) hB5 hbel.size HCC.out)
          refine anyT_oneL (i := 28) rfl (by kernel_rfl) ?_
          intro K hK
          refine step_append_ex rfl (.tmp 160) (.tmp 164) 43 rfl (.slice A2 ((x.index - L.sI).toNat - 1) ((x.index - L.sI).toNat - 1)) (.slice A6 (es'.drop k).length c6) _ rfl rfl HA.out ?_
          rintro v6 w6 ⟨A7, n7, c7, rfl, kb6, fb6, kx6, HF⟩
          refine hK _ _ (.inr ⟨kb6, kx6⟩) ?_
          clear hK K hS HA
          try simp only [Act.put, List.setIfInBounds_toArray, List.set_cons_zero, List.set_cons_succ]
          have hS : (fun w' : World => (∀ i, w'.cell? ⟨b, i, none⟩ = [.int .i64 L.sI, .int .i64 L.sT, .slice A n c, .slice A2 n2 c2, .int .i64 L.commit][i]?) ∧ (∀ i, w'.cell? ⟨wr.heap.size, i, none⟩ = [.int .i64 x.index, .int .i64 x.term, .int .i64 x.kind, .slice A3 n3 c3][i]?)) w6 := ⟨kb6, kx6⟩
          refine anyT_takeL (i := 29) (v := ?va29) rfl (by kernel_rfl) (by kernel_rfl) (by kernel_rfl) (by kernel_rfl) (by kernel_rfl) (fun _ _ _ h => h) (Or.inl ⟨by rfl, fun wS hSw => ?hya29⟩) hS ?rea29
          case hya29 => (dsimp only at hSw; obtain ⟨hS1, hS2⟩ := hSw; go_simp; try with_reducible rfl)
          try simp only [Act.put, List.setIfInBounds_toArray, List.set_cons_zero, List.set_cons_succ]
          refine anyT_takeL (i := 30) (v := ?va30) rfl (by kernel_rfl) (by kernel_rfl) (by kernel_rfl) (by kernel_rfl) (by kernel_rfl) (fun _ _ _ h => h) (Or.inl ⟨by rfl, fun wS hSw => ?hya30⟩) hS ?rea30
          case hya30 => (dsimp only at hSw; obtain ⟨hS1, hS2⟩ := hSw; go_simp; try with_reducible rfl)
          try simp only [Act.put, List.setIfInBounds_toArray, List.set_cons_zero, List.set_cons_succ]
          refine anyT_oneL (i := 31) rfl (by kernel_rfl) ?_
          intro K hK
          go_simp
          refine hK _ _ (.inl rfl) ?_
          clear hK K hS
          refine anyT_done (by kernel_rfl) ?_ _
          go_wp2
          go_ret3
          obtain ⟨o', hL', hE'⟩ := HF.out
          exact ⟨o', by rw [HOFF.out, HLAY.out]; rfl, by rw [HOFF.out, HLAY.out]; exact hL', hE'⟩
          -- END20
        · by_cases hte : old.term = x.term
          · have HL := Lib.hid (lay_keep (r := es'.drop (k + 1)) hn hte)
            have hin : x.index - L.sI ≤ L.ents.length := by
              rcases entry_cases L x.index with ⟨_, h2⟩ | ⟨_, _, h3⟩ | ⟨_, h2, _⟩
              · rw [hn] at h2; cases h2
              · rw [hn] at h3; cases h3
              · exact h2
            have hte' : (old.term == x.term) = true := by simpa using hte
            clear hn hte
            go_wp2
            go_roundw
            case rel => exact ⟨k + 1, by omega, by go_num, by unfold Hid; rw [HI.out, HDR.out, HL.out], by rw [HXI.out] at hin; omega, hb13.alloc hb13.size _⟩
            case measure => simp [intOf]; omega
          · have hte' : (old.term == x.term) = false := by simpa using hte
            by_cases hcm : x.index ≤ L.commit
            · have HLAY : Hid (L.offerAt i' es' = (0, false, 101, L)) := by
                unfold Hid LogM.offerAt
                rw [HI.out, HDR.out, lay_bad hn hte hcm]
              have k13 := (keeps hb13 hb HCC.out hf).1
              have hb' : b < w1.heap.size := Nat.lt_of_lt_of_le hb hb13.size
              clear hn hte
              go_wp2
              go_quiet (fail)
              go_wp2
              go_ret3
              exact ⟨o, by rw [HOFF.out, HLAY.out]; rfl, by rw [HOFF.out, HLAY.out]; exact hLg.below (below_drewN (hb13.alloc hb13.size _) _), Ext.of_below (below_drewN (hb13.alloc hb13.size _) _) hw⟩
            · have HLAY : Hid (L.offerAt i' es' = (i' + n', true, 0, { L with ents := L.ents.take (x.index - L.sI - 1).toNat ++ es'.drop k })) := by
                unfold Hid LogM.offerAt
                rw [HI.out, HDR.out, lay_cut hn hte hcm, ← HN'.out]
              have k13 := (keeps hb13 hb HCC.out hf).1
              have hb' : b < w1.heap.size := Nat.lt_of_lt_of_le hb hb13.size
              clear hn hte
              go_wp2
              go_quiet (fail)
              go_wp2
              have BX : Hid (Blk w1 wr.heap.size 63 [.int .i64 x.index, .int .i64 x.term, .int .i64 x.kind, .slice A3 n3 c3]) := ((Blk.new wr 63 _)).same (hb2.block wr.heap.size (by simp))
              have gin : 0 ≤ x.index - L.sI - 1 := gx2
              refine (fun (H : ∀ W : World, Below w.heap.size w W → Blk W wr.heap.size 63 [.int .i64 x.index, .int .i64 x.term, .int .i64 x.kind, .slice A3 n3 c3] → Code.wp Try.prog _ _ _ W) => H _ ?_ ?_) ?_
              · exact below_drewN (hb13.alloc hb13.size _) _
              · exact BX.out.alloc _
              clear kx fx sx hb3 hb13 hb2 BX q0 q1 q2 q3 hbB k13
              intro W hbW hBW
              -- BLOCK20 b
              have kW := (keeps hbW hb HCC.out hf).1
              have kX := hBW.cells
              have hS : (fun w' : World => (∀ i, w'.cell? ⟨b, i, none⟩ = [.int .i64 L.sI, .int .i64 L.sT, .slice A n c, .slice A2 n2 c2, .int .i64 L.commit][i]?) ∧ (∀ i, w'.cell? ⟨wr.heap.size, i, none⟩ = [.int .i64 x.index, .int .i64 x.term, .int .i64 x.kind, .slice A3 n3 c3][i]?)) W.drew := ⟨kW, kX⟩
              obtain ⟨A5, n5, c5, hsl1, hv5⟩ := slice_ents hv' k (by omega) (by omega)
              have hm2 : x.index - L.sI - 1 ≤ c2 := by have := HN2.out; omega
              have hsl2 := fun W => run_slice_hm43 W A2 n2 c2 (x.index - L.sI - 1) gx2 hm2
              have e1 : IntKind.i64.wrap (x.index - L.sI) = x.index - L.sI := IntWalk.i64_in _ (by omega)
              have e2 : IntKind.i64.wrap (x.index - L.sI - 1) = x.index - L.sI - 1 := IntWalk.i64_in _ (by omega)
              refine wp_region_T 31 (fun w' : World => (∀ i, w'.cell? ⟨b, i, none⟩ = [.int .i64 L.sI, .int .i64 L.sT, .slice A n c, .slice A2 n2 c2, .int .i64 L.commit][i]?) ∧ (∀ i, w'.cell? ⟨wr.heap.size, i, none⟩ = [.int .i64 x.index, .int .i64 x.term, .int .i64 x.kind, .slice A3 n3 c3][i]?)) (by kernel_rfl) ?_
              refine anyT_takeL (i := 0) (v := ?vb0) rfl (by kernel_rfl) (by kernel_rfl) (by kernel_rfl) (by kernel_rfl) (by kernel_rfl) (fun _ _ _ h => h) (Or.inl ⟨by rfl, fun wS hSw => ?hyb0⟩) hS ?reb0
              case hyb0 => (dsimp only at hSw; obtain ⟨hS1, hS2⟩ := hSw; go_simp; try with_reducible rfl)
              try simp only [Act.put, List.setIfInBounds_toArray, List.set_cons_zero, List.set_cons_succ]
              refine anyT_takeL (i := 1) (v := ?vb1) rfl (by kernel_rfl) (by kernel_rfl) (by kernel_rfl) (by kernel_rfl) (by kernel_rfl) (fun _ _ _ h => h) (Or.inl ⟨by rfl, fun wS hSw => ?hyb1⟩) hS ?reb1
              case hyb1 => (dsimp only at hSw; obtain ⟨hS1, hS2⟩ := hSw; go_simp; try with_reducible rfl)
              try simp only [Act.put, List.setIfInBounds_toArray, List.set_cons_zero, List.set_cons_succ]
              refine anyT_takeL (i := 2) (v := ?vb2) rfl (by kernel_rfl) (by kernel_rfl) (by kernel_rfl) (by kernel_rfl) (by kernel_rfl) (fun _ _ _ h => h) (Or.inl ⟨by rfl, fun wS hSw => ?hyb2⟩) hS ?reb2
              case hyb2 => (dsimp only at hSw; obtain ⟨hS1, hS2⟩ := hSw; go_simp; try with_reducible rfl)
              try simp only [Act.put, List.setIfInBounds_toArray, List.set_cons_zero, List.set_cons_succ]
              refine anyT_takeL (i := 3) (v := ?vb3) rfl (by kernel_rfl) (by kernel_rfl) (by kernel_rfl) (by kernel_rfl) (by kernel_rfl) (fun _ _ _ h => h) (Or.inl ⟨by rfl, fun wS hSw => ?hyb3⟩) hS ?reb3
              case hyb3 => (dsimp only at hSw; obtain ⟨hS1, hS2⟩ := hSw; go_simp; try with_reducible rfl)
              try simp only [Act.put, List.setIfInBounds_toArray, List.set_cons_zero, List.set_cons_succ]
              refine anyT_takeL (i := 4) (v := ?vb4) rfl (by kernel_rfl) (by kernel_rfl) (by kernel_rfl) (by kernel_rfl) (by kernel_rfl) (fun _ _ _ h => h) (Or.inl ⟨by rfl, fun wS hSw => ?hyb4⟩) hS ?reb4
              case hyb4 => (dsimp only at hSw; obtain ⟨hS1, hS2⟩ := hSw; go_simp; try with_reducible rfl)
              try simp only [Act.put, List.setIfInBounds_toArray, List.set_cons_zero, List.set_cons_succ]
              refine anyT_takeL (i := 5) (v := ?vb5) rfl (by kernel_rfl) (by kernel_rfl) (by kernel_rfl) (by kernel_rfl) (by kernel_rfl) (fun _ _ _ h => h) (Or.inl ⟨by rfl, fun wS hSw => ?hyb5⟩) hS ?reb5
              case hyb5 => (dsimp only at hSw; obtain ⟨hS1, hS2⟩ := hSw; go_simp; try with_reducible rfl)
              try simp only [Act.put, List.setIfInBounds_toArray, List.set_cons_zero, List.set_cons_succ]
              refine anyT_takeL (i := 6) (v := ?vb6) rfl (by kernel_rfl) (by kernel_rfl) (by kernel_rfl) (by kernel_rfl) (by kernel_rfl) (fun _ _ _ h => h) (Or.inl ⟨by rfl, fun wS hSw => ?hyb6⟩) hS ?reb6
              case hyb6 => (dsimp only at hSw; obtain ⟨hS1, hS2⟩ := hSw; go_simp; try with_reducible rfl)
              try simp only [Act.put, List.setIfInBounds_toArray, List.set_cons_zero, List.set_cons_succ]
              refine anyT_takeL (i := 7) (v := ?vb7) rfl (by kernel_rfl) (by kernel_rfl) (by kernel_rfl) (by kernel_rfl) (by kernel_rfl) (fun _ _ _ h => h) (Or.inl ⟨by rfl, fun wS hSw => ?hyb7⟩) hS ?reb7
              case hyb7 => (dsimp only at hSw; obtain ⟨hS1, hS2⟩ := hSw; go_simp; try with_reducible rfl)
              try simp only [Act.put, List.setIfInBounds_toArray, List.set_cons_zero, List.set_cons_succ]
              refine anyT_takeL (i := 8) (v := ?vb8) rfl (by kernel_rfl) (by kernel_rfl) (by kernel_rfl) (by kernel_rfl) (by kernel_rfl) (fun _ _ _ h => h) (Or.inl ⟨by rfl, fun wS hSw => ?hyb8⟩) hS ?reb8
              case hyb8 => (dsimp only at hSw; obtain ⟨hS1, hS2⟩ := hSw; go_simp; try with_reducible rfl)
              try simp only [Act.put, List.setIfInBounds_toArray, List.set_cons_zero, List.set_cons_succ]
              refine anyT_takeL (i := 9) (v := ?vb9) rfl (by kernel_rfl) (by kernel_rfl) (by kernel_rfl) (by kernel_rfl) (by kernel_rfl) (fun _ _ _ h => h) (Or.inl ⟨by rfl, fun wS hSw => ?hyb9⟩) hS ?reb9
              case hyb9 => (dsimp only at hSw; obtain ⟨hS1, hS2⟩ := hSw; go_simp; try with_reducible rfl)
              try simp only [Act.put, List.setIfInBounds_toArray, List.set_cons_zero, List.set_cons_succ]
              refine anyT_takeL (i := 10) (v := ?vb10) rfl (by kernel_rfl) (by kernel_rfl) (by kernel_rfl) (by kernel_rfl) (by kernel_rfl) (fun _ _ _ h => h) (Or.inl ⟨by rfl, fun wS hSw => ?hyb10⟩) hS ?reb10
              case hyb10 => (dsimp only at hSw; obtain ⟨hS1, hS2⟩ := hSw; go_simp; try with_reducible rfl)
              try simp only [Act.put, List.setIfInBounds_toArray, List.set_cons_zero, List.set_cons_succ]
              refine anyT_takeL (i := 11) (v := ?vb11) rfl (by kernel_rfl) (by kernel_rfl) (by kernel_rfl) (by kernel_rfl) (by kernel_rfl) (fun _ _ _ h => h) (Or.inl ⟨by rfl, fun wS hSw => ?hyb11⟩) hS ?reb11
              case hyb11 => (dsimp only at hSw; obtain ⟨hS1, hS2⟩ := hSw; go_simp; try with_reducible rfl)
              try simp only [Act.put, List.setIfInBounds_toArray, List.set_cons_zero, List.set_cons_succ]
              refine anyT_takeL (i := 12) (v := ?vb12) rfl (by kernel_rfl) (by kernel_rfl) (by kernel_rfl) (by kernel_rfl) (by kernel_rfl) (fun _ _ _ h => h) (Or.inl ⟨by rfl, fun wS hSw => ?hyb12⟩) hS ?reb12
              case hyb12 => (dsimp only at hSw; obtain ⟨hS1, hS2⟩ := hSw; go_simp; try with_reducible rfl)
              try simp only [Act.put, List.setIfInBounds_toArray, List.set_cons_zero, List.set_cons_succ]
              refine anyT_takeL (i := 13) (v := ?vb13) rfl (by kernel_rfl) (by kernel_rfl) (by kernel_rfl) (by kernel_rfl) (by kernel_rfl) (fun _ _ _ h => h) (Or.inl ⟨by rfl, fun wS hSw => ?hyb13⟩) hS ?reb13
              case hyb13 => (dsimp only at hSw; obtain ⟨hS1, hS2⟩ := hSw; go_simp; try with_reducible rfl)
              try simp only [Act.put, List.setIfInBounds_toArray, List.set_cons_zero, List.set_cons_succ]
              refine anyT_takeL (i := 14) (v := ?vb14) rfl (by kernel_rfl) (by kernel_rfl) (by kernel_rfl) (by kernel_rfl) (by kernel_rfl) (fun _ _ _ h => h) (Or.inl ⟨by rfl, fun wS hSw => ?hyb14⟩) hS ?reb14
              case hyb14 => (dsimp only at hSw; obtain ⟨hS1, hS2⟩ := hSw; go_simp; try with_reducible rfl)
              try simp only [Act.put, List.setIfInBounds_toArray, List.set_cons_zero, List.set_cons_succ]
              refine anyT_takeL (i := 15) (v := ?vb15) rfl (by kernel_rfl) (by kernel_rfl) (by kernel_rfl) (by kernel_rfl) (by kernel_rfl) (fun _ _ _ h => h) (Or.inl ⟨by rfl, fun wS hSw => ?hyb15⟩) hS ?reb15
              case hyb15 => (dsimp only at hSw; obtain ⟨hS1, hS2⟩ := hSw; go_simp; try with_reducible rfl)
              try simp only [Act.put, List.setIfInBounds_toArray, List.set_cons_zero, List.set_cons_succ]
              refine anyT_takeL (i := 16) (v := ?vb16) rfl (by kernel_rfl) (by kernel_rfl) (by kernel_rfl) (by kernel_rfl) (by kernel_rfl) (fun _ _ _ h => h) (Or.inl ⟨by rfl, fun wS hSw => ?hyb16⟩) hS ?reb16
              case hyb16 => (dsimp only at hSw; obtain ⟨hS1, hS2⟩ := hSw; go_simp; try with_reducible rfl)
              try simp only [Act.put, List.setIfInBounds_toArray, List.set_cons_zero, List.set_cons_succ]
              refine anyT_takeL (i := 17) (v := ?vb17) rfl (by kernel_rfl) (by kernel_rfl) (by kernel_rfl) (by kernel_rfl) (by kernel_rfl) (fun _ _ _ h => h) (Or.inl ⟨by rfl, fun wS hSw => ?hyb17⟩) hS ?reb17
              case hyb17 => (dsimp only at hSw; obtain ⟨hS1, hS2⟩ := hSw; go_simp; try with_reducible rfl)
              try simp only [Act.put, List.setIfInBounds_toArray, List.set_cons_zero, List.set_cons_succ]
              refine anyT_takeL (i := 18) (v := ?vb18) rfl (by kernel_rfl) (by kernel_rfl) (by kernel_rfl) (by kernel_rfl) (by kernel_rfl) (fun _ _ _ h => h) (Or.inl ⟨by rfl, fun wS hSw => ?hyb18⟩) hS ?reb18
              case hyb18 => (dsimp only at hSw; obtain ⟨hS1, hS2⟩ := hSw; go_simp; try with_reducible rfl)
              try simp only [Act.put, List.setIfInBounds_toArray, List.set_cons_zero, List.set_cons_succ]
              refine anyT_takeL (i := 19) (v := ?vb19) rfl (by kernel_rfl) (by kernel_rfl) (by kernel_rfl) (by kernel_rfl) (by kernel_rfl) (fun _ _ _ h => h) (Or.inl ⟨by rfl, fun wS hSw => ?hyb19⟩) hS ?reb19
              case hyb19 => (dsimp only at hSw; obtain ⟨hS1, hS2⟩ := hSw; go_simp; try with_reducible rfl)
              try simp only [Act.put, List.setIfInBounds_toArray, List.set_cons_zero, List.set_cons_succ]
              refine anyT_takeL (i := 20) (v := ?vb20) rfl (by kernel_rfl) (by kernel_rfl) (by kernel_rfl) (by kernel_rfl) (by kernel_rfl) (fun _ _ _ h => h) (Or.inl ⟨by rfl, fun wS hSw => ?hyb20⟩) hS ?reb20
              case hyb20 => (dsimp only at hSw; obtain ⟨hS1, hS2⟩ := hSw; go_simp; try with_reducible rfl)
              try simp only [Act.put, List.setIfInBounds_toArray, List.set_cons_zero, List.set_cons_succ]
              refine anyT_takeL (i := 21) (v := ?vb21) rfl (by kernel_rfl) (by kernel_rfl) (by kernel_rfl) (by kernel_rfl) (by kernel_rfl) (fun _ _ _ h => h) (Or.inl ⟨by rfl, fun wS hSw => ?hyb21⟩) hS ?reb21
              case hyb21 => (dsimp only at hSw; obtain ⟨hS1, hS2⟩ := hSw; go_simp; try with_reducible rfl)
              try simp only [Act.put, List.setIfInBounds_toArray, List.set_cons_zero, List.set_cons_succ]
              refine anyT_takeL (i := 22) (v := ?vb22) rfl (by kernel_rfl) (by kernel_rfl) (by kernel_rfl) (by kernel_rfl) (by kernel_rfl) (fun _ _ _ h => h) (Or.inl ⟨by rfl, fun wS hSw => ?hyb22⟩) hS ?reb22
              case hyb22 => (dsimp only at hSw; obtain ⟨hS1, hS2⟩ := hSw; go_simp; try with_reducible rfl)
              try simp only [Act.put, List.setIfInBounds_toArray, List.set_cons_zero, List.set_cons_succ]
              refine anyT_takeL (i := 23) (v := ?vb23) rfl (by kernel_rfl) (by kernel_rfl) (by kernel_rfl) (by kernel_rfl) (by kernel_rfl) (fun _ _ _ h => h) (Or.inl ⟨by rfl, fun wS hSw => ?hyb23⟩) hS ?reb23
              case hyb23 => (dsimp only at hSw; obtain ⟨hS1, hS2⟩ := hSw; go_simp; try with_reducible rfl)
              try simp only [Act.put, List.setIfInBounds_toArray, List.set_cons_zero, List.set_cons_succ]
              refine anyT_takeL (i := 24) (v := ?vb24) rfl (by kernel_rfl) (by kernel_rfl) (by kernel_rfl) (by kernel_rfl) (by kernel_rfl) (fun _ _ _ h => h) (Or.inl ⟨by rfl, fun wS hSw => ?hyb24⟩) hS ?reb24
              case hyb24 => (dsimp only at hSw; obtain ⟨hS1, hS2⟩ := hSw; go_simp; try with_reducible rfl)
              try simp only [Act.put, List.setIfInBounds_toArray, List.set_cons_zero, List.set_cons_succ]
              refine anyT_takeL (i := 25) (v := ?vb25) rfl (by kernel_rfl) (by kernel_rfl) (by kernel_rfl) (by kernel_rfl) (by kernel_rfl) (fun _ _ _ h => h) (Or.inl ⟨by rfl, fun wS hSw => ?hyb25⟩) hS ?reb25
              case hyb25 => (dsimp only at hSw; obtain ⟨hS1, hS2⟩ := hSw; go_simp; try with_reducible rfl)
              try simp only [Act.put, List.setIfInBounds_toArray, List.set_cons_zero, List.set_cons_succ]
              refine anyT_takeL (i := 26) (v := ?vb26) rfl (by kernel_rfl) (by kernel_rfl) (by kernel_rfl) (by kernel_rfl) (by kernel_rfl) (fun _ _ _ h => h) (Or.inl ⟨by rfl, fun wS hSw => ?hyb26⟩) hS ?reb26
              case hyb26 => (dsimp only at hSw; obtain ⟨hS1, hS2⟩ := hSw; go_simp; try with_reducible rfl)
              try simp only [Act.put, List.setIfInBounds_toArray, List.set_cons_zero, List.set_cons_succ]
              clear hsl1 hsl2 e1 e2
              rw [show (x.index - L.sI - 1).toNat = (x.index - L.sI).toNat - 1 by omega] at HLAY
              have hbD : Below w.heap.size w W.drew := below_drewN hbW 1
              have hBD : Blk W.drew wr.heap.size 63 [.int .i64 x.index, .int .i64 x.term, .int .i64 x.kind, .slice A3 n3 c3] := hBW
              have hv6 := EntsAt.stays hv5 (Stays.of_below hbD) (Stays.of_below hbD)
              have hlen6 : (es'.drop k).length ≤ 20000 := by rw [List.length_drop]; have := HN'.out; omega
              have hd6 : ∀ (i : Nat) (hi : i < (es'.drop k).length), (es'.drop k)[i].data.length ≤ 30000 := fun i hi => by have := (HES.out.ent _ (HSUB.out _ (List.mem_of_mem_drop (List.getElem_mem hi)))).d; omega
              have HD6 := Lib.hid hd6
              clear hd6
              refine anyT_oneL (i := 27) rfl (by kernel_rfl) ?_
              intro K hK
              go_simp
              refine (owned87 _ (es'.drop k) _ _ _ hv6 (by omega) HD6.out).mono ?_
              rintro e w5 ⟨A6, c6, rfl, hD6, hb5⟩
              have hb5' : Below w.heap.size w w5 := hbD.trans (hb5.mono hbD.size)
              have kb5 := (keeps hb5' hb HCC.out hf).1
              have hB5 : Blk w5 wr.heap.size 63 [.int .i64 x.index, .int .i64 x.term, .int .i64 x.kind, .slice A3 n3 c3] := hBD.same (hb5.block _ hBD.lt)
              dsimp only
              refine hK _ _ (.inr ⟨kb5, hB5.cells⟩) ?_
              clear hK K
              try simp only [Act.put, List.setIfInBounds_toArray, List.set_cons_zero, List.set_cons_succ]
              have hS : (fun w' : World => (∀ i, w'.cell? ⟨b, i, none⟩ = [.int .i64 L.sI, .int .i64 L.sT, .slice A n c, .slice A2 n2 c2, .int .i64 L.commit][i]?) ∧ (∀ i, w'.cell? ⟨wr.heap.size, i, none⟩ = [.int .i64 x.index, .int .i64 x.term, .int .i64 x.kind, .slice A3 n3 c3][i]?)) w5 := ⟨kb5, hB5.cells⟩
              have HA := Lib.hid (offer_step (m := (x.index - L.sI).toNat - 1) (es := es'.drop k) hLg hw h0 hb5' hl hlen6 (EntsAt.stays hD6 (Stays.weak _ fun b hb => Nat.le_trans hbD.size hb) (Stays.weak _ fun b hb => Nat.le_trans hbD.size hb)) (by omega) hB5 hbel.size HCC.out)
              refine anyT_oneL (i := 28) rfl (by kernel_rfl) ?_
              intro K hK
              refine step_append_ex rfl (.tmp 160) (.tmp 164) 43 rfl (.slice A2 ((x.index - L.sI).toNat - 1) ((x.index - L.sI).toNat - 1)) (.slice A6 (es'.drop k).length c6) _ rfl rfl HA.out ?_
              rintro v6 w6 ⟨A7, n7, c7, rfl, kb6, fb6, kx6, HF⟩
              refine hK _ _ (.inr ⟨kb6, kx6⟩) ?_
              clear hK K hS HA
              try simp only [Act.put, List.setIfInBounds_toArray, List.set_cons_zero, List.set_cons_succ]
              have hS : (fun w' : World => (∀ i, w'.cell? ⟨b, i, none⟩ = [.int .i64 L.sI, .int .i64 L.sT, .slice A n c, .slice A2 n2 c2, .int .i64 L.commit][i]?) ∧ (∀ i, w'.cell? ⟨wr.heap.size, i, none⟩ = [.int .i64 x.index, .int .i64 x.term, .int .i64 x.kind, .slice A3 n3 c3][i]?)) w6 := ⟨kb6, kx6⟩
              refine anyT_takeL (i := 29) (v := ?vb29) rfl (by kernel_rfl) (by kernel_rfl) (by kernel_rfl) (by kernel_rfl) (by kernel_rfl) (fun _ _ _ h => h) (Or.inl ⟨by rfl, fun wS hSw => ?hyb29⟩) hS ?reb29
              case hyb29 => (dsimp only at hSw; obtain ⟨hS1, hS2⟩ := hSw; go_simp; try with_reducible rfl)
              try simp only [Act.put, List.setIfInBounds_toArray, List.set_cons_zero, List.set_cons_succ]
              refine anyT_takeL (i := 30) (v := ?vb30) rfl (by kernel_rfl) (by kernel_rfl) (by kernel_rfl) (by kernel_rfl) (by kernel_rfl) (fun _ _ _ h => h) (Or.inl ⟨by rfl, fun wS hSw => ?hyb30⟩) hS ?reb30
              case hyb30 => (dsimp only at hSw; obtain ⟨hS1, hS2⟩ := hSw; go_simp; try with_reducible rfl)
              try simp only [Act.put, List.setIfInBounds_toArray, List.set_cons_zero, List.set_cons_succ]
              refine anyT_oneL (i := 31) rfl (by kernel_rfl) ?_
              intro K hK
              go_simp
              refine hK _ _ (.inl rfl) ?_
              clear hK K hS
              refine anyT_done (by kernel_rfl) ?_ _
              go_wp2
              go_ret3
              obtain ⟨o', hL', hE'⟩ := HF.out
              exact ⟨o', by rw [HOFF.out, HLAY.out]; rfl, by rw [HOFF.out, HLAY.out]; exact hL', hE'⟩
              -- END20
      · obtain rfl : n' = k := by omega
        have HLAY : Hid (L.offerAt i' es' = (i' + n', true, 0, L)) := by
          unfold Hid LogM.offerAt
          rw [HI.out, List.drop_eq_nil_iff.2 (by rw [← HN'.out]; exact Nat.le_refl _), LogM.lay, ← HN'.out]
        go_wp2
        go_ret3
        exact ⟨o, by rw [HOFF.out, HLAY.out]; rfl, by rw [HOFF.out, HLAY.out]; exact hLg.below hbel, Ext.of_below hbel hw⟩

end Go.Proofs.Ytibkmhacpodceaa
