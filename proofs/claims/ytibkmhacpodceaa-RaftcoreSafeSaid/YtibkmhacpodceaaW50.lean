/- The world in memory: a thing of a row is written; the rows that holds fills. -/
import Derived.Test.YtibkmhacpodceaaW44
import Derived.Test.YtibkmhacpodceaaPlain
namespace Go.Proofs.Ytibkmhacpodceaa
open Go.RowKit

theorem Ext.setRow {S : List Nat} {o : Own} {w : World} {g : Nat} (hg : o g ∈ S) (cs : Array Value) : Ext S o o w (w.setRow g cs) :=
  ⟨rfl, rfl, rfl, Nat.le_of_eq (setRow_size w g cs).symm, fun _ _ => rfl, fun h b hb => h b (by rwa [setRow_size] at hb), fun b _ hn => setRow_other w g b cs (fun e => hn (e ▸ hg))⟩

/-- one thing of a row is written -/
theorem RowOf.setAt {α : Type} {sz : Nat} {R : α → List Value → Prop} {E : TypeId} {o : Own} {k : Nat} {w : World} {A : Option Addr} {n c : Nat} {al : List α} (h : RowOf sz R E o k w (.slice A n c) al) {i : Nat} (hi : i < al.length) :
    ∃ g cur, A = some ⟨g, 0, none⟩ ∧ o g = k ∧ w.heap[g]? = some (.cells cur E (0, 0)) ∧ i * sz + sz ≤ cur.size ∧
      ∀ a cs, cs.length = sz → R a cs → RowOf sz R E o k (w.setRow g (cur.toList.take (i * sz) ++ cs ++ cur.toList.drop (i * sz + cs.length)).toArray) (.slice A n c) (al.set i a) := by
  obtain ⟨A', c', xs, he, hc, hcm, hel, hp⟩ := h
  injection he with h1 h2 h3
  subst h1; subst h2; subst h3
  obtain ⟨g, cur, rfl, ho, hg, hsz, ht⟩ := hp (by omega)
  have hlen := hel.length
  have hmul : i * sz + sz ≤ al.length * sz := by rw [← Nat.succ_mul]; exact Nat.mul_le_mul_right _ hi
  have hmul2 : al.length * sz ≤ c * sz := Nat.mul_le_mul_right _ hc
  refine ⟨g, cur, rfl, ho, hg, by omega, fun a cs hl hR => ?_⟩
  refine ⟨_, c, xs.take (i * sz) ++ cs ++ xs.drop ((i + 1) * sz), by rw [List.length_set], by rw [List.length_set]; exact hc, hcm, hel.set i a cs hi hl hR, fun _ => ⟨g, _, rfl, ho, setRow_heap w g cur _ E _ hg, ?_, ?_⟩⟩
  · simp only [List.size_toArray, List.length_append, List.length_take, List.length_drop, Array.length_toList]; omega
  · have hcur : cur.toList.length = cur.size := Array.length_toList
    rw [List.length_set, ← ht]
    apply List.ext_getElem?
    intro j
    have e1 : (i + 1) * sz = i * sz + sz := Nat.succ_mul _ _
    simp only [List.getElem?_take, List.getElem?_append, List.length_append, List.length_take, List.getElem?_drop, hcur, hl, e1]
    by_cases a1 : j < i * sz
    · simp only [show j < al.length * sz by omega, show j < min (i * sz) cur.size + sz by omega, show j < min (i * sz) cur.size by omega, show j < min (i * sz) (min (al.length * sz) cur.size) + sz by omega, show j < min (i * sz) (min (al.length * sz) cur.size) by omega, if_true, a1]
    · by_cases a2 : j < i * sz + sz
      · simp only [show j < al.length * sz by omega, show j < min (i * sz) cur.size + sz by omega, show ¬ j < min (i * sz) cur.size by omega, show j < min (i * sz) (min (al.length * sz) cur.size) + sz by omega, show ¬ j < min (i * sz) (min (al.length * sz) cur.size) by omega, if_true, if_false]
        congr 1; omega
      · simp only [show ¬ j < min (i * sz) cur.size + sz by omega, show ¬ j < min (i * sz) (min (al.length * sz) cur.size) + sz by omega, if_false]
        have e3 : i * sz + sz + (j - (min (i * sz) cur.size + sz)) = j := by omega
        have e4 : i * sz + sz + (j - (min (i * sz) (min (al.length * sz) cur.size) + sz)) = j := by omega
        rw [e3, e4]

/-- one of a slice -/
theorem SliceOf.sub {α : Type} {sz : Nat} {R : α → List Value → Prop} {B : Nat → Prop} {w : World} {g off n c : Nat} {al : List α} (h : SliceOf sz R B w (.slice (some ⟨g, off, none⟩) n c) al) {i : Nat} {x : α} (hx : al[i]? = some x) :
    SliceOf sz R B w (.slice (some ⟨g, off + i * sz, none⟩) 1 (c - i)) [x] := by
  obtain ⟨hi, rfl⟩ := List.getElem?_eq_some_iff.1 hx
  obtain ⟨g', off', cs, he, hB, hl, hR, hlen, hc⟩ := SliceOf.at_ h i hi
  injection he with he; injection he with e1 e2
  subst e1; subst e2
  have := h.len
  refine ⟨_, c - i, cs, rfl, by simp only [List.length_singleton]; omega, Elems.one hlen hR, fun _ => ⟨g, off + i * sz, rfl, hB, hl, fun j u hu => hc j u hu⟩⟩

/-- the world while what is committed is held against a node -/
def ComAt (o : Own) (wb : Nat) (W : WorldM) (p : Nat → Nat) (vs vl : Value) (w : World) (com : List Ent) (wr : World) : Prop :=
  ∃ o' vc, WorldIn o' wr wb { W with com := com } p vs vc vl ∧ Ext [21, 23] o o' w wr

section
variable {o o' : Own} {wb : Nat} {W : WorldM} {p : Nat → Nat} {vs vc vl : Value} {w wr : World} {com : List Ent}
theorem zero_step (hin : WorldIn o' wr wb { W with com := com } p vs vc vl) (he : Ext [21, 23] o o' w wr) (hl : com.length ≤ 50000) :
    ∃ v' w', (Builtin.append_ #[43, 43] 43 #[vc, .slice (some ⟨wr.heap.size, 0, none⟩) 1 1]).run Try.prog (wr.alloc (.cells #[.int .i64 0, .int .i64 0, .int .i64 0, .slice none 0 0] 63)) = .ok v' w' ∧ (∃ A9 k9 c9, v' = .slice A9 k9 c9) ∧ wb < w'.heap.size ∧ (∀ i, w'.frozen? ⟨wb, i, none⟩ = false) ∧ w'.cell? ⟨wb, 7, none⟩ = some vc ∧
      Hid (ComAt o wb W p vs vl w (com ++ [Ent.zero]) (w'.setCell ⟨wb, 7, none⟩ v')) := by
  have hA : Ext [] o' o' wr (wr.alloc (.cells #[.int .i64 0, .int .i64 0, .int .i64 0, .slice none 0 0] 63)) := (Ext.refl [] o' wr).alloc _
  have h1 := hin.ext hA
  have hx : EntsAt Any (Of o' 0) (wr.alloc (.cells #[.int .i64 0, .int .i64 0, .int .i64 0, .slice none 0 0] 63)) (.slice (some ⟨wr.heap.size, 0, none⟩) 1 1) [Ent.zero] :=
    SliceOf.one (Blk.new wr 63 [.int .i64 0, .int .i64 0, .int .i64 0, .slice none 0 0]) trivial rfl ⟨none, 0, 0, rfl, SliceOf.nil_⟩
  obtain ⟨v', w', h2, h3, h4, h5, h6, H⟩ := com_step h1 hx (by show com.length + 1 ≤ _; omega)
  obtain ⟨o2, h7, h8⟩ := H.out
  exact ⟨v', w', h2, h3, h4, h5, h6, o2, v', h7, he.trans ((hA.mono (by simp)).trans h8)⟩
/-- an entry is written into the row -/
theorem put_step (hin : WorldIn o' wr wb { W with com := com } p vs vc vl) (he : Ext [21, 23] o o' w wr) {j : Nat} (hj : j < com.length) :
    ∃ g cur N c, vc = .slice (some ⟨g, 0, none⟩) N c ∧ N = com.length ∧ wr.heap[g]? = some (.cells cur 63 (0, 0)) ∧ j * 4 + 4 ≤ cur.size ∧
      ∀ (x : Ent) A n c, BytesAt (Of o' 0) wr (.slice A n c) x.data →
        ComAt o wb W p vs vl w (com.set j x) (wr.setRow g (cur.toList.take (j * 4) ++ [Value.int .i64 x.index, .int .i64 x.term, .int .i64 x.kind, .slice A n c] ++ cur.toList.drop (j * 4 + 4)).toArray) := by
  obtain ⟨A0, c0, rfl, _⟩ := hin.com.form
  obtain ⟨g, cur, rfl, ho, hg, hs, hput⟩ := hin.com.setAt hj
  refine ⟨g, cur, _, c0, rfl, rfl, hg, hs, fun x A n c hx => ?_⟩
  have hE : Ext [21] o' o' wr (wr.setRow g (cur.toList.take (j * 4) ++ [Value.int .i64 x.index, .int .i64 x.term, .int .i64 x.kind, .slice A n c] ++ cur.toList.drop (j * 4 + 4)).toArray) := Ext.setRow (by simp [ho]) _
  obtain ⟨g1, g2, g3, g4, g5, g6⟩ := hin.grow (q := 21) (by decide) (by decide) hE
  have hr := hput x [.int .i64 x.index, .int .i64 x.term, .int .i64 x.kind, .slice A n c] rfl ⟨A, n, c, rfl, hx⟩
  refine ⟨o', _, ⟨g1, g2, g3, g4 (by decide), ?_, g6 (by decide)⟩, he.trans (hE.mono (by simp))⟩
  exact hr.stays (Stays.refl _ _) (fun a cs => EntR.stays (hE.stays (by simp)))
theorem zero_int (hin : WorldIn o' wr wb W p vs vc vl) (hl : W.ldr.length ≤ 50000) :
    ∃ v' w', (Builtin.append_ #[35, 35] 35 #[vl, .slice (some ⟨wr.heap.size, 0, none⟩) 1 1]).run Try.prog (wr.alloc (.cells #[.int .i64 0] 3)) = .ok v' w' ∧ (∃ A9 k9 c9, v' = .slice A9 k9 c9) ∧ wb < w'.heap.size ∧ (∀ i, w'.frozen? ⟨wb, i, none⟩ = false) ∧ w'.cell? ⟨wb, 8, none⟩ = some vl ∧
      Hid (∃ o2, WorldIn o2 (w'.setCell ⟨wb, 8, none⟩ v') wb { W with ldr := W.ldr ++ [0] } p vs vc v' ∧ Ext [22, 23] o' o2 wr (w'.setCell ⟨wb, 8, none⟩ v')) := by
  have hA : Ext [] o' o' wr (wr.alloc (.cells #[.int .i64 0] 3)) := (Ext.refl [] o' wr).alloc _
  have h1 := hin.ext hA
  have hx : IntsAt Any (wr.alloc (.cells #[.int .i64 0] 3)) (.slice (some ⟨wr.heap.size, 0, none⟩) 1 1) [0] := SliceOf.one (Blk.new wr 3 [.int .i64 0]) trivial rfl rfl
  obtain ⟨v', w', h2, h3, h4, h5, h6, H⟩ := ldr_step h1 hx (by show W.ldr.length + 1 ≤ _; omega)
  obtain ⟨o2, h7, h8⟩ := H.out
  exact ⟨v', w', h2, h3, h4, h5, h6, o2, h7, (hA.mono (by simp)).trans h8⟩
theorem put_int (hin : WorldIn o' wr wb W p vs vc vl) {j : Nat} (hj : j < W.ldr.length) :
    ∃ g N c, vl = .slice (some ⟨g, 0, none⟩) N c ∧ N = W.ldr.length ∧ wb ≠ g ∧ g < wr.heap.size ∧ (∀ i, wr.frozen? ⟨g, i, none⟩ = false) ∧ (∃ y, wr.cell? ⟨g, j, none⟩ = some y) ∧
      ∀ (x : Int), WorldIn o' (wr.setCell ⟨g, j, none⟩ (.int .i64 x)) wb { W with ldr := W.ldr.set j x } p vs vc vl ∧ Ext [22] o' o' wr (wr.setCell ⟨g, j, none⟩ (.int .i64 x)) := by
  obtain ⟨A0, c0, rfl, _⟩ := hin.ldr.form
  obtain ⟨g, cur, rfl, ho, hg, hs, hput⟩ := hin.ldr.setAt hj
  have hB : Blk wr g 3 cur.toList := by unfold Blk; rw [Array.toArray_toList]; exact hg
  have hne : wb ≠ g := fun e => by have := hin.own; rw [e, ho] at this; cases this
  refine ⟨g, _, c0, rfl, rfl, hne, hB.lt, hB.frozens, ⟨_, (hB.cell j).trans (List.getElem?_eq_getElem (by rw [Array.length_toList]; omega))⟩, fun x => ?_⟩
  have hE : Ext [22] o' o' wr (wr.setCell ⟨g, j, none⟩ (.int .i64 x)) := (Ext.refl [22] o' wr).setCell (.inr (by simp [ho])) _
  obtain ⟨g1, g2, g3, g4, g5, g6⟩ := hin.grow (q := 22) (by decide) (by decide) hE
  have hr := hput x [.int .i64 x] rfl rfl
  refine ⟨⟨g1, g2, g3, g4 (by decide), g5 (by decide), ?_⟩, hE⟩
  rw [setCell_eq_setRow wr g j cur 3 (0, 0) _ hg]
  have e : (cur.toList.take (j * 1) ++ [Value.int .i64 x] ++ cur.toList.drop (j * 1 + [Value.int .i64 x].length)).toArray = cur.setIfInBounds j (.int .i64 x) := by
    rw [← Array.toList_inj, Array.toList_setIfInBounds]
    simp only [Nat.mul_one, List.length_singleton, List.append_assoc, List.singleton_append]
    rw [List.set_eq_take_append_cons_drop, if_pos (by rw [Array.length_toList]; omega)]
  rw [← e]; exact hr
end

/-- how long the row at a place is -/
def lenAt (w : World) (a : Addr) : Nat := match w.cell? a with
  | some (.slice _ n _) => n
  | _ => 0
theorem lenAt_of {w : World} {a : Addr} {A : Option Addr} {n c : Nat} (h : w.cell? a = some (.slice A n c)) : lenAt w a = n := by unfold lenAt; rw [h]

section
variable {o o' o2 : Own} {wb : Nat} {W : WorldM} {p : Nat → Nat} {vs vc vl : Value} {w w2 wr wx : World} {com : List Ent} {ldr : List Int}
theorem ComAt.len (h : ComAt o wb W p vs vl w com wr) : lenAt wr ⟨wb, 7, none⟩ = com.length := by
  obtain ⟨o', vc, hin, he⟩ := h
  obtain ⟨A, c, rfl, _⟩ := hin.com.form
  exact lenAt_of (by rw [hin.blk.cells]; rfl)
theorem ComAt.base (h : ComAt o2 wb W p vs vl w2 com wr) (he : Ext [21, 23] o o2 w w2) : ComAt o wb W p vs vl w com wr := by
  obtain ⟨o', vc, hin, he'⟩ := h
  exact ⟨o', vc, hin, he.trans he'⟩
theorem ComAt.below (h : ComAt o wb W p vs vl w com wr) (hw : Wf o w) (hb : Below wr.heap.size wr wx) : ComAt o wb W p vs vl w com wx := by
  obtain ⟨o', vc, hin, he'⟩ := h
  exact ⟨o', vc, hin.below (he'.wf hw) hb, he'.trans (Ext.of_below hb (he'.wf hw))⟩

def LdrAt (o : Own) (wb : Nat) (W : WorldM) (p : Nat → Nat) (vs vc : Value) (w : World) (ldr : List Int) (wr : World) : Prop :=
  ∃ o' vl, WorldIn o' wr wb { W with ldr := ldr } p vs vc vl ∧ Ext [22, 23] o o' w wr
theorem LdrAt.len (h : LdrAt o wb W p vs vc w ldr wr) : lenAt wr ⟨wb, 8, none⟩ = ldr.length := by
  obtain ⟨o', vl, hin, he⟩ := h
  obtain ⟨A, c, rfl, _⟩ := hin.ldr.form
  exact lenAt_of (by rw [hin.blk.cells]; rfl)
end
end Go.Proofs.Ytibkmhacpodceaa

/- Walks: holds. -/
namespace Go.Proofs.Ytibkmhacpodceaa
open Go.RowKit

def HoldIs (o : Own) (wb : Nat) (W : WorldM) (w : World) (e : Ending) (w' : World) : Prop := ∃ o', e = .returned (.bool true) ∧ Ext Owners o o' w w' ∧ WorldAt o' w' wb W

theorem entry_done {r : RaftM} (hok : r.log.Ok) {s j cN : Nat} (hs : r.log.sI = s) (hc : r.log.commit = cN) (h1 : s ≤ j) (h2 : j < cN) : ∃ x, r.done[j - s]? = some x ∧ r.log.entry ((j : Int) + 1) = some x ∧ x.data.length ≤ 100 := by
  have hl := hok.c1
  have hlt : j - s < r.log.ents.length := by omega
  refine ⟨r.log.ents[j - s], ?_, ?_, (hok.ent _ hlt).1.d⟩
  · unfold RaftM.done
    rw [hs, hc, List.getElem?_take, if_pos (by omega), List.getElem?_eq_getElem hlt]
  · unfold LogM.entry
    rw [hs, if_neg (by omega), show ((j : Int) + 1 - (s : Int) - 1).toNat = j - s by omega, List.getElem?_eq_getElem hlt]

set_option maxRecDepth 100000 in
set_option maxHeartbeats 8000000 in
theorem holds7 (o : Own) (wb : Nat) (W : WorldM) (k : Nat) (w : World) (h : WorldAt o w wb W) (hk1 : 1 ≤ k) (hk5 : k ≤ 5) (hok : (W.node k).log.Ok) (hcl : W.com.length ≤ 20000) (hll : W.ldr.length ≤ 20000) (hfit : Fits W.com (W.node k))
    (hld : (W.node k).role = 3 → 1 ≤ (W.node k).term ∧ (W.node k).term ≤ 10000 ∧ ∀ q, W.ldr[(W.node k).term.toNat]? = some q → q = 0 ∨ q = k) (hw : Wf o w) :
    Calls Try.prog 7 #[.pointer (some ⟨wb, 0, none⟩), .int .i64 k] w (HoldIs o wb (W.noted k) w) := by
  have HOK := Lib.hid hok
  have HF := Lib.hid hfit
  have HLD := Lib.hid hld
  have HCL := Lib.hid (And.intro hcl hll)
  obtain ⟨p, vs, vc, vl, hin⟩ := h.in_
  have HI := Lib.hid hin
  have kn : w.cell? ⟨wb, k, none⟩ = some (.pointer (some ⟨p k, 0, none⟩)) := by rw [hin.blk.cells]; exact worldCells_at p _ _ _ k hk1 hk5
  have hlw := hin.blk.lt
  obtain ⟨s, hs⟩ : ∃ s : Nat, (W.node k).log.sI = s := ⟨(W.node k).log.sI.toNat, by have := hok.i0; omega⟩
  obtain ⟨cN, hc⟩ : ∃ c : Nat, (W.node k).log.commit = c := ⟨(W.node k).log.commit.toNat, by have := hok.i0; have := hok.c0; omega⟩
  have hsc : s ≤ cN := by have := hok.c0; omega
  have HSCN := Lib.hid hsc
  have hcN : cN ≤ 50000 := by have := hok.c1; have := hok.i1; have := hok.len; omega
  have HSC := Lib.hid (And.intro hs hc)
  clear h hok hfit hld hcl hll hin
  go_enter Try.func7, Try.ntmps7
  go_wp2_with fail
  refine (log14 o (2 * k) (2 * k + 1) (p k) (W.node k) _ (HI.out.nodes k hk1 (by omega)) (by have := HOK.out.mlen; omega) hw).mono ?_
  rintro e w1 ⟨b1, o1, rfl, hL1, hE1⟩
  have HL1 := Lib.hid hL1
  have HE1 := Lib.hid hE1
  have HWF1 : Hid (Wf o1 w1) := hE1.wf hw
  have HI1 := Lib.hid (HI.out.ext hE1)
  clear hL1 hE1
  go_wp2_with fail
  refine (commit19 o1 (2 * k + 1) b1 _ _ HL1.out).mono ?_
  rintro e w' ⟨rfl, rfl⟩
  go_wp2_with fail
  refine (start23 o1 (2 * k + 1) b1 _ _ HL1.out (by have := HOK.out.mlen; omega)).mono ?_
  rintro e w2 ⟨A2, n2, c2, rfl, _, hB2⟩
  have HB2 := Lib.hid hB2
  clear hB2
  have HST : Hid (ComAt o1 wb W p vs vl w' (noteAll W.com s ((W.node k).done.take (s - s))) (w2.alloc (.cells #[.int .i64 (s : Int), .int .i64 (W.node k).log.sT, .slice A2 n2 c2] 60))) := by
    rw [Nat.sub_self, List.take_zero]
    have hb : Below w'.heap.size w' (w2.alloc (.cells #[.int .i64 (s : Int), .int .i64 (W.node k).log.sT, .slice A2 n2 c2] 60)) := HB2.out.alloc HB2.out.size _
    exact ⟨o1, vc, HI1.out.below HWF1.out hb, Ext.of_below hb HWF1.out⟩
  go_wp2_with fail
  clear hs hc
  go_loopw [9] (fun i wr => ∃ j : Nat, s ≤ j ∧ j ≤ cN ∧ i = .int .i64 ((j : Int) + 1) ∧ Hid (ComAt o1 wb W p vs vl w' (noteAll W.com s ((W.node k).done.take (j - s))) wr)) (fun i _ => (cN + 1 - (intOf i).toNat))
  case atStart => exact ⟨s, Nat.le_refl _, hsc, rfl, HST.out⟩
  case round =>
    obtain ⟨j, hj1, hj2, rfl, HJ⟩ := hrel
    by_cases hlt : j < cN
    · obtain ⟨o3, vc3, hin3, he3⟩ := HJ.out
      obtain ⟨x, hx, hent, hxd⟩ := entry_done HOK.out HSC.out.1 HSC.out.2 hj1 hlt
      have HX := Lib.hid (And.intro hx (And.intro hent hxd))
      have HI3 := Lib.hid hin3
      have HE3 := Lib.hid he3
      have HWF3 : Hid (Wf o3 wr) := he3.wf HWF1.out
      have hjc : (j : Int) + 1 ≤ cN := by omega
      clear hin3 he3 hx hent hxd
      go_wp2_with fail
      refine (at24 o3 (2 * k + 1) b1 (W.node k).log ((j : Int) + 1) wr (HL1.out.ext HE3.out (by simp; omega) (by simp)) (by have := HOK.out.len; omega) HOK.out.i0 HOK.out.i1 (by omega) (by omega) (fun y hy => by rw [HX.out.2.1] at hy; obtain rfl := Option.some.inj hy; have := HX.out.2.2; omega)).mono ?_
      rintro e w4 ⟨hB4, (⟨hno, _⟩ | ⟨x', A, a, c, hx', rfl, hD⟩)⟩
      · rw [HX.out.2.1] at hno; cases hno
      · rw [HX.out.2.1] at hx'
        obtain rfl := Option.some.inj hx'
        have HB4 := Lib.hid hB4
        have HD := Lib.hid hD
        clear hx' hB4 hD
        go_wp2_with fail
        obtain ⟨w5, hw5⟩ : ∃ w5, w5 = w4.alloc (.cells #[.int .i64 x.index, .int .i64 x.term, .int .i64 x.kind, .slice A a c] 63) := ⟨_, rfl⟩
        rw [← hw5]
        have HE5 : Hid (Below wr.heap.size wr w5) := by rw [hw5]; exact HB4.out.alloc HB4.out.size _
        have HE15 : Hid (Ext [21, 23] o1 o3 w' w5) := HE3.out.trans (Ext.of_below HE5.out HWF3.out)
        have HB5 : Hid (Blk w5 w4.heap.size 63 [.int .i64 x.index, .int .i64 x.term, .int .i64 x.kind, .slice A a c]) := by rw [hw5]; exact Blk.new w4 63 _
        have HD5 : Hid (BytesAt (Of o3 0) w5 (.slice A a c) x.data) := by rw [hw5]; exact BytesAt.stays HD.out (((Stays.refl _ w4).alloc _).trans (Stays.weak _ fun b hb => HWF3.out b hb))
        have HWF5 : Hid (Wf o3 w5) := HE15.out.wf HWF1.out
        have HEB : Hid (o3 w4.heap.size = 0) := HWF3.out _ HB4.out.size
        obtain ⟨C, hC⟩ : ∃ C, C = noteAll W.com s ((W.node k).done.take (j - s)) := ⟨_, rfl⟩
        have HI5 : Hid (WorldIn o3 w5 wb { W with com := C } p vs vc3 vl) := by rw [hC]; exact HI3.out.below HWF3.out HE5.out
        have hCl : C.length ≤ 50000 := by
          have h1 := noteAll_len ((W.node k).done.take (j - s)) W.com s
          have h2 := HCL.out.1
          rw [← hC, List.length_take] at h1; omega
        have HCC : Hid ((noteEnt C j x)[j]? = some x ∧ noteEnt C j x = noteAll W.com s ((W.node k).done.take (j + 1 - s))) := by
          constructor
          · refine noteEnt_same fun y hy => ?_
            have hF := HF.out.step (j - s)
            rw [HSC.out.1] at hF
            exact hF (j - s) y x (by rw [show (s : Int).toNat + (j - s) = j by omega]; rw [hC] at hy; exact hy) HX.out.1
          · rw [show j + 1 - s = (j - s) + 1 by omega, noteAll_take HX.out.1, show s + (j - s) = j by omega, hC]
        clear hw5 hC HI3 HE5 HD HB4 HJ
        go_loopw [51] (fun _ wx => ∃ t : Nat, C.length ≤ t ∧ (t ≤ j + 1 ∨ t = C.length) ∧ Hid (ComAt o3 wb W p vs vl w5 (padEnt C t) wx)) (fun _ wx => j + 1 - lenAt wx ⟨wb, 7, none⟩)
        case atStart => exact ⟨C.length, Nat.le_refl _, .inr rfl, by rw [padEnt_self (Nat.le_refl _)]; exact ⟨o3, vc3, HI5.out, Ext.refl _ _ _⟩⟩
        case round =>
          obtain ⟨t, ht1, ht2, HT⟩ := hrel
          obtain ⟨o6, vc6, hin6, he6⟩ := HT.out
          have hpl : (padEnt C t).length = t := by rw [padEnt_len]; omega
          obtain ⟨A6, c6, hv6, _⟩ := hin6.com.form
          have hv7 : vc6 = .slice A6 t c6 := by rw [hv6]; show Value.slice A6 (padEnt C t).length c6 = _; rw [hpl]
          subst hv7
          clear hv6
          have k7 : wr.cell? ⟨wb, 7, none⟩ = some (.slice A6 t c6) := by rw [hin6.blk.cells]; rfl
          have hlx := hin6.blk.lt
          have htj : t ≤ 60000 := by omega
          by_cases hlt2 : t ≤ j
          · have HZ := Lib.hid (zero_step hin6 he6 (by rw [hpl]; omega))
            have HLT2 := Lib.hid (And.intro ht1 hlt2)
            have hcd : (t : Int) < (j : Int) + 1 := by omega
            clear hin6 he6 hpl ht1 ht2 hlt2
            go_wp2_with (at_builtin; refine wpList_append_ex rfl (.tmp 56) (.tmp 58) 43 rfl _ _ _ rfl rfl HZ.out ?_; rintro v' w6 ⟨⟨A9, k9, c9, rfl⟩, hl2, f2, q2, HQ⟩)
            go_roundw
            case rel => exact ⟨t + 1, by have := HLT2.out; omega, .inl (by have := HLT2.out; omega), by rw [← padEnt_snoc HLT2.out.1]; exact HQ.out⟩
            case measure =>
              have h1 := HQ.out.len
              have h2 := HT.out.len
              rw [List.length_append, padEnt_len, List.length_singleton] at h1
              rw [padEnt_len] at h2
              have := HLT2.out
              rw [h1, h2]; omega
          · have hpe : padEnt C t = padEnt C (j + 1) := by
              rcases ht2 with ht2 | ht2
              · rw [show t = j + 1 by omega]
              · rw [padEnt_self (by omega), padEnt_self (by omega)]
            have hcd : (j : Int) + 1 ≤ t := by omega
            have hjt : j < t := by omega
            rw [hpe] at hin6 HT
            obtain ⟨y, hy⟩ : ∃ y, (padEnt C (j + 1))[j]? = some y := ⟨_, List.getElem?_eq_getElem (by rw [padEnt_len]; omega)⟩
            have hput := put_step hin6.drew he6.drew (j := j) (by rw [padEnt_len]; omega)
            obtain ⟨g, cur, N, c7, hv, hNN, hg, hfit, hput⟩ := hput
            clear hNN
            injection hv with hv1 hv2 hv3
            subst hv1; subst hv2; subst hv3
            obtain ⟨g', off', _, _, _, hA, hg2, _, ky, _⟩ := EntsAt.at? hin6.com.slice hy
            injection hA with hA; injection hA with e1 e2
            subst e1; subst e2
            rw [Nat.zero_add] at ky
            obtain ⟨yt, hyt⟩ : ∃ yt, yt = y.term := ⟨_, rfl⟩
            rw [← hyt] at ky
            have HY := Lib.hid (And.intro hy hyt)
            have HPUT := Lib.hid (And.intro hg (And.intro hfit hput))
            have HE56 : Hid (Ext [21, 23] o3 o6 w5 wr) := he6
            have kb := (he6.blk HB5.out (by rw [HEB.out]; simp)).cells
            have hlb := (he6.blk HB5.out (by rw [HEB.out]; simp)).lt
            have HD6 : Hid (BytesAt (Of o6 0) wr (.slice A a c) x.data) := BytesAt.stays HD5.out (he6.stays (by simp))
            clear hin6 he6 hpl ht1 ht2 hlt2 hy hyt hput hg hfit hpe
            go_upto_if 71 with (fail)
            go_cut [72] (fun _ wx => Hid (ComAt o3 wb W p vs vl w5 (noteEnt C j x) wx))
            case first =>
              cases hyb : (yt == 0)
              · have HE9 : Hid (noteEnt C j x = padEnt C (j + 1)) := by
                  show setEnt _ _ _ = _
                  unfold setEnt
                  rw [HY.out.1, Option.getD_some, ← HY.out.2, if_neg (by simpa using hyb)]
                go_wp2_with fail
                go_meet
                rw [HE9.out]; exact HT.out
              · have HE9 : Hid (noteEnt C j x = (padEnt C (j + 1)).set j x) := by
                  show setEnt _ _ _ = _
                  unfold setEnt
                  rw [HY.out.1, Option.getD_some, ← HY.out.2, if_pos (by simpa using hyb)]
                have hwj : IntKind.i64.wrap (j : Int) = j := IntWalk.i64_in _ (by omega)
                go_upto_region 16 with (fail)
                -- BLOCK ha
                have hS : (fun w' : World => w'.cell? ⟨wb, 7, none⟩ = some (.slice (some ⟨g, 0, none⟩) t c6) ∧ (∀ i, w'.cell? ⟨w4.heap.size, i, none⟩ = [Value.int .i64 x.index, .int .i64 x.term, .int .i64 x.kind, .slice A a c][i]?)) wr.drew := ⟨k7, kb⟩
                refine wp_region_T 8 (fun w' : World => w'.cell? ⟨wb, 7, none⟩ = some (.slice (some ⟨g, 0, none⟩) t c6) ∧ (∀ i, w'.cell? ⟨w4.heap.size, i, none⟩ = [Value.int .i64 x.index, .int .i64 x.term, .int .i64 x.kind, .slice A a c][i]?)) (by kernel_rfl) ?_
                refine anyT_takeL (i := 0) (v := ?va0) rfl (by kernel_rfl) (by kernel_rfl) (by kernel_rfl) (by kernel_rfl) (by kernel_rfl) (fun _ _ _ h => h) (Or.inl ⟨by rfl, fun wS hSw => ?hya0⟩) hS ?rea0
                case hya0 => (dsimp only at hSw; obtain ⟨hS1, hS2⟩ := hSw; go_simp; try with_reducible rfl)
                try simp only [Act.put, List.setIfInBounds_toArray, List.set_cons_zero, List.set_cons_succ]
                refine anyT_takeL (i := 1) (v := ?va1) rfl (by kernel_rfl) (by kernel_rfl) (by kernel_rfl) (by kernel_rfl) (by kernel_rfl) (fun _ _ _ h => h) (Or.inl ⟨by rfl, fun wS hSw => ?hya1⟩) hS ?rea1
                case hya1 => (dsimp only at hSw; obtain ⟨hS1, hS2⟩ := hSw; go_simp; try with_reducible rfl)
                try simp only [Act.put, List.setIfInBounds_toArray, List.set_cons_zero, List.set_cons_succ]
                refine anyT_takeL (i := 2) (v := ?va2) rfl (by kernel_rfl) (by kernel_rfl) (by kernel_rfl) (by kernel_rfl) (by kernel_rfl) (fun _ _ _ h => h) (Or.inl ⟨by rfl, fun wS hSw => ?hya2⟩) hS ?rea2
                case hya2 => (dsimp only at hSw; obtain ⟨hS1, hS2⟩ := hSw; go_simp; try with_reducible rfl)
                try simp only [Act.put, List.setIfInBounds_toArray, List.set_cons_zero, List.set_cons_succ]
                refine anyT_takeL (i := 3) (v := ?va3) rfl (by kernel_rfl) (by kernel_rfl) (by kernel_rfl) (by kernel_rfl) (by kernel_rfl) (fun _ _ _ h => h) (Or.inl ⟨by rfl, fun wS hSw => ?hya3⟩) hS ?rea3
                case hya3 => (dsimp only at hSw; obtain ⟨hS1, hS2⟩ := hSw; go_simp; try with_reducible rfl)
                try simp only [Act.put, List.setIfInBounds_toArray, List.set_cons_zero, List.set_cons_succ]
                refine anyT_takeL (i := 4) (v := ?va4) rfl (by kernel_rfl) (by kernel_rfl) (by kernel_rfl) (by kernel_rfl) (by kernel_rfl) (fun _ _ _ h => h) (Or.inl ⟨by rfl, fun wS hSw => ?hya4⟩) hS ?rea4
                case hya4 => (dsimp only at hSw; obtain ⟨hS1, hS2⟩ := hSw; go_simp; try with_reducible rfl)
                try simp only [Act.put, List.setIfInBounds_toArray, List.set_cons_zero, List.set_cons_succ]
                refine anyT_takeL (i := 5) (v := ?va5) rfl (by kernel_rfl) (by kernel_rfl) (by kernel_rfl) (by kernel_rfl) (by kernel_rfl) (fun _ _ _ h => h) (Or.inl ⟨by rfl, fun wS hSw => ?hya5⟩) hS ?rea5
                case hya5 => (dsimp only at hSw; obtain ⟨hS1, hS2⟩ := hSw; go_simp; try with_reducible rfl)
                try simp only [Act.put, List.setIfInBounds_toArray, List.set_cons_zero, List.set_cons_succ]
                refine anyT_takeL (i := 6) (v := ?va6) rfl (by kernel_rfl) (by kernel_rfl) (by kernel_rfl) (by kernel_rfl) (by kernel_rfl) (fun _ _ _ h => h) (Or.inl ⟨by rfl, fun wS hSw => ?hya6⟩) hS ?rea6
                case hya6 => (dsimp only at hSw; obtain ⟨hS1, hS2⟩ := hSw; go_simp; try with_reducible rfl)
                try simp only [Act.put, List.setIfInBounds_toArray, List.set_cons_zero, List.set_cons_succ]
                refine anyT_takeL (i := 7) (v := ?va7) rfl (by kernel_rfl) (by kernel_rfl) (by kernel_rfl) (by kernel_rfl) (by kernel_rfl) (fun _ _ _ h => h) (Or.inl ⟨by rfl, fun wS hSw => ?hya7⟩) hS ?rea7
                case hya7 => (dsimp only at hSw; obtain ⟨hS1, hS2⟩ := hSw; go_simp; try with_reducible rfl)
                try simp only [Act.put, List.setIfInBounds_toArray, List.set_cons_zero, List.set_cons_succ]
                refine anyT_oneL (i := 8) rfl (by kernel_rfl) ?_
                intro K hK
                rw [if_pos (by rfl)]
                refine wp_store_row 63 _ _ rfl g (j * 4) [Value.int .i64 x.index, .int .i64 x.term, .int .i64 x.kind, .slice A a c] cur 63 rfl rfl HPUT.out.1 (by have := HPUT.out.2.1; simpa using this) (by kernel_rfl) (by simp [Value.oneCell']) ?_
                try dsimp only
                refine hK _ _ (.inl rfl) ?_
                clear hK K hS
                try simp only [Act.put, List.setIfInBounds_toArray, List.set_cons_zero, List.set_cons_succ]
                refine anyT_done (by kernel_rfl) ?_ _
                try clear hS
                -- END
                clear hwj
                go_wp2_with fail
                go_meet
                have hq := HPUT.out.2.2 x A a c (BytesAt.stays HD6.out ((Stays.refl _ wr).drew))
                rw [HE9.out]
                simp only [List.append_assoc, List.cons_append, List.nil_append] at hq
                exact hq
            case rest =>
              obtain ⟨o7, vc7, hin7, he7⟩ := hcut.out
              obtain ⟨A7, c7, hv7, hc7, _⟩ := hin7.com.form
              obtain ⟨n7, hn7⟩ : ∃ n7, n7 = (noteEnt C j x).length := ⟨_, rfl⟩
              have hv7' : vc7 = .slice A7 n7 c7 := by rw [hv7, hn7]
              have hc7' : n7 ≤ c7 := by rw [hn7]; exact hc7
              subst hv7'
              have hjn : j + 1 ≤ n7 := by rw [hn7, noteEnt_len]; omega
              obtain ⟨g7, off7, _, _, _, rfl, _⟩ := EntsAt.at? hin7.com.slice HCC.out.1
              have HS7 : Hid (EntsAt (Of o7 21) (Of o7 0) wc (.slice (some ⟨g7, off7 + j * 4, none⟩) 1 (c7 - j)) [x]) := SliceOf.sub hin7.com.slice HCC.out.1
              have HD7 : Hid (BytesAt (Of o7 0) wc (.slice A a c) x.data) := BytesAt.stays HD5.out (he7.stays (by simp))
              have k77 : wc.cell? ⟨wb, 7, none⟩ = some (.slice (some ⟨g7, off7, none⟩) n7 c7) := by rw [hin7.blk.cells]; rfl
              have hlw7 := hin7.blk.lt
              have kb7 := (he7.blk HB5.out (by rw [HEB.out]; simp)).cells
              have hlb7 := (he7.blk HB5.out (by rw [HEB.out]; simp)).lt
              have HC7 := Lib.hid hcut
              have hn7c : n7 ≤ 100000 := by rw [hn7, noteEnt_len]; omega
              clear hv7 hc7 hn7 hin7 he7 hcut kb hlb k7 hlx ky
              have hwj : IntKind.i64.wrap (j : Int) = j := IntWalk.i64_in _ (by omega)
              have hcj : ¬ c7 = j := by omega
              have hcj2 : (j : Int) + 1 ≤ c7 := by omega
              have hjj : j + 1 - j = 1 := by omega
              have hjj2 : (j : Int) ≤ (j : Int) + 1 := by omega
              go_upto_region 17 with (fail)
              -- BLOCK hb
              have hS : (fun w' : World => (∀ i, w'.cell? ⟨w4.heap.size, i, none⟩ = [Value.int .i64 x.index, .int .i64 x.term, .int .i64 x.kind, .slice A a c][i]?) ∧ w'.cell? ⟨wb, 7, none⟩ = some (.slice (some ⟨g7, off7, none⟩) n7 c7)) wc.drew := ⟨kb7, k77⟩
              refine wp_region_T 12 (fun w' : World => (∀ i, w'.cell? ⟨w4.heap.size, i, none⟩ = [Value.int .i64 x.index, .int .i64 x.term, .int .i64 x.kind, .slice A a c][i]?) ∧ w'.cell? ⟨wb, 7, none⟩ = some (.slice (some ⟨g7, off7, none⟩) n7 c7)) (by kernel_rfl) ?_
              refine anyN_takeL (i := 0) (v := ?vb0) rfl (by kernel_rfl) (by kernel_rfl) (by kernel_rfl) (Nat.le_refl 12) (by kernel_rfl) (fun _ _ _ h => h) (Or.inl ⟨by rfl, fun wS hSw => ?hyb0⟩) hS ?reb0
              case hyb0 => (dsimp only at hSw; obtain ⟨hS1, hS2⟩ := hSw; go_simp; try with_reducible rfl)
              try simp only [Act.put, List.setIfInBounds_toArray, List.set_cons_zero, List.set_cons_succ]
              refine anyN_takeL (i := 2) (v := ?vb2) rfl (by kernel_rfl) (by kernel_rfl) (by kernel_rfl) (Nat.le_refl 12) (by kernel_rfl) (fun _ _ _ h => h) (Or.inl ⟨by rfl, fun wS hSw => ?hyb2⟩) hS ?reb2
              case hyb2 => (dsimp only at hSw; obtain ⟨hS1, hS2⟩ := hSw; go_simp; try with_reducible rfl)
              try simp only [Act.put, List.setIfInBounds_toArray, List.set_cons_zero, List.set_cons_succ]
              refine anyN_takeL (i := 3) (v := ?vb3) rfl (by kernel_rfl) (by kernel_rfl) (by kernel_rfl) (Nat.le_refl 12) (by kernel_rfl) (fun _ _ _ h => h) (Or.inl ⟨by rfl, fun wS hSw => ?hyb3⟩) hS ?reb3
              case hyb3 => (dsimp only at hSw; obtain ⟨hS1, hS2⟩ := hSw; go_simp; try with_reducible rfl)
              try simp only [Act.put, List.setIfInBounds_toArray, List.set_cons_zero, List.set_cons_succ]
              refine anyN_takeL (i := 4) (v := ?vb4) rfl (by kernel_rfl) (by kernel_rfl) (by kernel_rfl) (Nat.le_refl 12) (by kernel_rfl) (fun _ _ _ h => h) (Or.inl ⟨by rfl, fun wS hSw => ?hyb4⟩) hS ?reb4
              case hyb4 => (dsimp only at hSw; obtain ⟨hS1, hS2⟩ := hSw; go_simp; try with_reducible rfl)
              try simp only [Act.put, List.setIfInBounds_toArray, List.set_cons_zero, List.set_cons_succ]
              refine anyN_takeL (i := 5) (v := ?vb5) rfl (by kernel_rfl) (by kernel_rfl) (by kernel_rfl) (Nat.le_refl 12) (by kernel_rfl) (fun _ _ _ h => h) (Or.inl ⟨by rfl, fun wS hSw => ?hyb5⟩) hS ?reb5
              case hyb5 => (dsimp only at hSw; obtain ⟨hS1, hS2⟩ := hSw; go_simp; try with_reducible rfl)
              try simp only [Act.put, List.setIfInBounds_toArray, List.set_cons_zero, List.set_cons_succ]
              refine anyN_takeL (i := 6) (v := ?vb6) rfl (by kernel_rfl) (by kernel_rfl) (by kernel_rfl) (Nat.le_refl 12) (by kernel_rfl) (fun _ _ _ h => h) (Or.inl ⟨by rfl, fun wS hSw => ?hyb6⟩) hS ?reb6
              case hyb6 => (dsimp only at hSw; obtain ⟨hS1, hS2⟩ := hSw; go_simp; try with_reducible rfl)
              try simp only [Act.put, List.setIfInBounds_toArray, List.set_cons_zero, List.set_cons_succ]
              refine anyN_takeL (i := 7) (v := ?vb7) rfl (by kernel_rfl) (by kernel_rfl) (by kernel_rfl) (Nat.le_refl 12) (by kernel_rfl) (fun _ _ _ h => h) (Or.inl ⟨by rfl, fun wS hSw => ?hyb7⟩) hS ?reb7
              case hyb7 => (dsimp only at hSw; obtain ⟨hS1, hS2⟩ := hSw; go_simp; try with_reducible rfl)
              try simp only [Act.put, List.setIfInBounds_toArray, List.set_cons_zero, List.set_cons_succ]
              refine anyN_takeL (i := 8) (v := ?vb8) rfl (by kernel_rfl) (by kernel_rfl) (by kernel_rfl) (Nat.le_refl 12) (by kernel_rfl) (fun _ _ _ h => h) (Or.inl ⟨by rfl, fun wS hSw => ?hyb8⟩) hS ?reb8
              case hyb8 => (dsimp only at hSw; obtain ⟨hS1, hS2⟩ := hSw; go_simp; try with_reducible rfl)
              try simp only [Act.put, List.setIfInBounds_toArray, List.set_cons_zero, List.set_cons_succ]
              refine anyN_takeL (i := 9) (v := ?vb9) rfl (by kernel_rfl) (by kernel_rfl) (by kernel_rfl) (Nat.le_refl 12) (by kernel_rfl) (fun _ _ _ h => h) (Or.inl ⟨by rfl, fun wS hSw => ?hyb9⟩) hS ?reb9
              case hyb9 => (dsimp only at hSw; obtain ⟨hS1, hS2⟩ := hSw; go_simp; try with_reducible rfl)
              try simp only [Act.put, List.setIfInBounds_toArray, List.set_cons_zero, List.set_cons_succ]
              refine anyT_oneL (i := 1) rfl (by kernel_rfl) ?_
              intro K hK
              go_simp
              have hbz : Below wc.heap.size wc.drew (wc.drew.alloc (.cells #[Value.int .i64 x.index, .int .i64 x.term, .int .i64 x.kind, .slice A a c] 63)) := (Below.refl wc.heap.size wc.drew).alloc (show wc.heap.size ≤ wc.drew.heap.size from Nat.le_refl _) _
              have HH1 : Hid (EntsAt Any (Of o7 0) (wc.drew.alloc (.cells #[Value.int .i64 x.index, .int .i64 x.term, .int .i64 x.kind, .slice A a c] 63)) (.slice (some ⟨wc.heap.size, 0, none⟩) 1 1) [x]) := SliceOf.one (Blk.new wc.drew 63 [Value.int .i64 x.index, .int .i64 x.term, .int .i64 x.kind, .slice A a c]) trivial rfl ⟨A, a, c, rfl, BytesAt.stays HD7.out (((Stays.refl _ wc).drew).alloc _)⟩
              have HH2 : Hid (EntsAt (Of o7 21) (Of o7 0) (wc.drew.alloc (.cells #[Value.int .i64 x.index, .int .i64 x.term, .int .i64 x.kind, .slice A a c] 63)) (.slice (some ⟨g7, off7 + j * 4, none⟩) 1 (c7 - j)) [x]) := EntsAt.stays HS7.out (((Stays.refl _ wc).drew).alloc _) (((Stays.refl _ wc).drew).alloc _)
              have kz1 : (∀ i, World.cell? (wc.drew.alloc (.cells #[Value.int .i64 x.index, .int .i64 x.term, .int .i64 x.kind, .slice A a c] 63)) ⟨w4.heap.size, i, none⟩ = [Value.int .i64 x.index, .int .i64 x.term, .int .i64 x.kind, .slice A a c][i]?) ∧ World.cell? (wc.drew.alloc (.cells #[Value.int .i64 x.index, .int .i64 x.term, .int .i64 x.kind, .slice A a c] 63)) ⟨wb, 7, none⟩ = some (.slice (some ⟨g7, off7, none⟩) n7 c7) := ⟨fun i => (hbz.cell (p := ⟨w4.heap.size, i, none⟩) hlb7).trans (kb7 i), (hbz.cell (p := ⟨wb, 7, none⟩) hlw7).trans k77⟩
              try dsimp only
              clear hS
              have hS : (fun w' : World => (∀ i, w'.cell? ⟨w4.heap.size, i, none⟩ = [Value.int .i64 x.index, .int .i64 x.term, .int .i64 x.kind, .slice A a c][i]?) ∧ w'.cell? ⟨wb, 7, none⟩ = some (.slice (some ⟨g7, off7, none⟩) n7 c7)) (wc.drew.alloc (.cells #[Value.int .i64 x.index, .int .i64 x.term, .int .i64 x.kind, .slice A a c] 63)) := kz1
              refine hK _ _ (.inr hS) ?_
              clear hK K
              try simp only [Act.put, List.setIfInBounds_toArray, List.set_cons_zero, List.set_cons_succ]
              refine anyT_oneL (i := 10) rfl (by kernel_rfl) ?_
              intro K hK
              go_simp
              refine (same25 (some ⟨wc.heap.size, 0, none⟩) 1 (some ⟨g7, off7 + j * 4, none⟩) (c7 - j) x Any (Of o7 0) (Of o7 21) (Of o7 0) (wc.drew.alloc (.cells #[Value.int .i64 x.index, .int .i64 x.term, .int .i64 x.kind, .slice A a c] 63)) HH1.out HH2.out).mono ?_
              rintro e w8 ⟨rfl, hb8⟩
              have hs8 : wc.heap.size ≤ ((wc.drew.alloc (.cells #[Value.int .i64 x.index, .int .i64 x.term, .int .i64 x.kind, .slice A a c] 63)) : World).heap.size := hbz.size
              have hbw : Below wc.heap.size wc.drew w8 := hbz.trans (hb8.mono hs8)
              have HB8 : Hid (Below wc.heap.size wc w8) := ⟨hbw.os, hbw.tape, hbw.output, hbw.size, hbw.block⟩
              have kS8 : (∀ i, w8.cell? ⟨w4.heap.size, i, none⟩ = [Value.int .i64 x.index, .int .i64 x.term, .int .i64 x.kind, .slice A a c][i]?) ∧ w8.cell? ⟨wb, 7, none⟩ = some (.slice (some ⟨g7, off7, none⟩) n7 c7) := ⟨fun i => (hbw.cell (p := ⟨w4.heap.size, i, none⟩) hlb7).trans (kb7 i), (hbw.cell (p := ⟨wb, 7, none⟩) hlw7).trans k77⟩
              clear hs8 hbw hb8 hbz
              try dsimp only
              clear hS
              have hS : (fun w' : World => (∀ i, w'.cell? ⟨w4.heap.size, i, none⟩ = [Value.int .i64 x.index, .int .i64 x.term, .int .i64 x.kind, .slice A a c][i]?) ∧ w'.cell? ⟨wb, 7, none⟩ = some (.slice (some ⟨g7, off7, none⟩) n7 c7)) w8 := kS8
              refine hK _ _ (.inr hS) ?_
              clear hK K
              try simp only [Act.put, List.setIfInBounds_toArray, List.set_cons_zero, List.set_cons_succ]
              refine anyN_takeL (i := 11) (v := ?vb11) rfl (by kernel_rfl) (by kernel_rfl) (by kernel_rfl) (Nat.le_refl 12) (by kernel_rfl) (fun _ _ _ h => h) (Or.inl ⟨by rfl, fun wS hSw => ?hyb11⟩) hS ?reb11
              case hyb11 => (dsimp only at hSw; obtain ⟨hS1, hS2⟩ := hSw; go_simp; try with_reducible rfl)
              try simp only [Act.put, List.setIfInBounds_toArray, List.set_cons_zero, List.set_cons_succ]
              refine anyT_done (by kernel_rfl) ?_ _
              try clear hS
              -- END
              clear hwj hjj hcj
              go_wp2_with fail
              go_roundw
              case rel =>
                refine ⟨j + 1, by omega, by omega, by go_num, ?_⟩
                have := HC7.out.out.below HWF5.out HB8.out
                rw [HCC.out.2] at this
                exact this.base HE15.out
              case measure => simp [intOf]; omega
    · obtain rfl : j = cN := by omega
      have HDN : Hid (noteAll W.com s ((W.node k).done.take (j - s)) = (W.noted k).com) := by
        show _ = noteAll W.com (W.node k).log.sI.toNat (W.node k).done
        rw [HSC.out.1, List.take_of_length_le (by unfold RaftM.done; rw [HSC.out.1, HSC.out.2, List.length_take]; omega)]
        rfl
      obtain ⟨o3, vc3, hin3, he3⟩ := HJ.out
      rw [HDN.out] at hin3
      have HI3 := Lib.hid hin3
      have HE3 : Hid (Ext Owners o o3 w wr) := (HE1.out.mono (by simp)).trans (he3.mono (by simp [Owners]))
      have HWF3 : Hid (Wf o3 wr) := HE3.out.wf hw
      have hjc : ¬ (j : Int) + 1 ≤ j := by omega
      clear hin3 he3 HJ
      go_wp2_with fail
      refine (role11 o3 (2 * k) (2 * k + 1) (p k) (W.node k) _ (HI3.out.nodes k hk1 (by omega))).mono ?_
      rintro e w9 ⟨rfl, rfl⟩
      go_wp2_with fail
      refine (term20 o3 (2 * k) (2 * k + 1) (p k) (W.node k) _ (HI3.out.nodes k hk1 (by omega))).mono ?_
      rintro e w9 ⟨rfl, rfl⟩
      by_cases hr3 : (W.node k).role = 3
      · obtain ⟨ht1, ht2, hall⟩ := HLD.out hr3
        obtain ⟨T, hT⟩ : ∃ T : Nat, (W.node k).term = T := ⟨(W.node k).term.toNat, by omega⟩
        have hT1 : 1 ≤ T := by omega
        have hT2 : T ≤ 10000 := by omega
        have hTi1 : (1 : Int) ≤ T := by omega
        have hTi2 : (T : Int) ≤ 10000 := by omega
        have HALL : Hid (∀ q, W.ldr[T]? = some q → q = 0 ∨ q = k) := by rw [hT] at hall; exact hall
        have HNT : Hid ((W.noted k).ldr = noteInt W.ldr T k) := by
          show (if (W.node k).role = 3 then noteInt W.ldr (W.node k).term.toNat k else W.ldr) = _
          rw [if_pos hr3, hT]; rfl
        clear ht1 ht2 hall
        go_wp2_with fail
        clear hr3 hT
        obtain ⟨W2, hW2⟩ : ∃ W2 : WorldM, W2 = { W with com := (W.noted k).com } := ⟨_, rfl⟩
        have HI4 : Hid (WorldIn o3 w9 wb W2 p vs vc3 vl) := by rw [hW2]; exact HI3.out
        have HW2 : Hid (W2.ldr = W.ldr ∧ ∀ l, l = noteInt W.ldr T k → W.noted k = { W2 with ldr := l }) := by
          rw [hW2]
          refine ⟨rfl, fun l hl => ?_⟩
          rw [hl, ← HNT.out]; rfl
        clear hW2
        go_loopw [109] (fun _ wx => ∃ t : Nat, W.ldr.length ≤ t ∧ (t ≤ T + 1 ∨ t = W.ldr.length) ∧ Hid (LdrAt o3 wb W2 p vs vc3 w9 (padInt W.ldr t) wx)) (fun _ wx => T + 1 - lenAt wx ⟨wb, 8, none⟩)
        case atStart =>
          refine ⟨W.ldr.length, Nat.le_refl _, .inr rfl, ?_⟩
          rw [padInt_self (Nat.le_refl _), ← HW2.out.1]
          exact ⟨o3, vl, HI4.out, Ext.refl _ _ _⟩
        case round =>
          obtain ⟨t, ht1, ht2, HT⟩ := hrel
          obtain ⟨o6, vl6, hin6, he6⟩ := HT.out
          have hpl : (padInt W.ldr t).length = t := by rw [padInt_len]; omega
          obtain ⟨A6, c6, hv6, _⟩ := hin6.ldr.form
          have hv7 : vl6 = .slice A6 t c6 := by rw [hv6]; show Value.slice A6 (padInt W.ldr t).length c6 = _; rw [hpl]
          subst hv7
          clear hv6
          have k8 : wr.cell? ⟨wb, 8, none⟩ = some (.slice A6 t c6) := by rw [hin6.blk.cells]; rfl
          have hlx := hin6.blk.lt
          have fx := hin6.blk.frozens
          have hll := HCL.out.2
          have htj : t ≤ 60000 := by omega
          by_cases hlt2 : t ≤ T
          · have hz := zero_int hin6 (by rw [hpl]; omega)
            obtain ⟨v', w', z1, z2, z3, z4, z5, z6⟩ := hz
            have hz : ∃ v' w', (Builtin.append_ #[35, 35] 35 #[.slice A6 t c6, .slice (some ⟨wr.heap.size, 0, none⟩) 1 1]).run Try.prog (wr.alloc (.cells #[.int .i64 0] 3)) = .ok v' w' ∧ (∃ A9 k9 c9, v' = .slice A9 k9 c9) ∧ wb < w'.heap.size ∧ (∀ i, w'.frozen? ⟨wb, i, none⟩ = false) ∧ w'.cell? ⟨wb, 8, none⟩ = some (.slice A6 t c6) ∧
                Hid (LdrAt o3 wb W2 p vs vc3 w9 (padInt W.ldr (t + 1)) (w'.setCell ⟨wb, 8, none⟩ v')) := by
              refine ⟨v', w', z1, z2, z3, z4, z5, ?_⟩
              obtain ⟨o8, h8, h9⟩ := z6.out
              rw [← padInt_snoc ht1]
              exact ⟨o8, v', h8, he6.trans h9⟩
            have HZ := Lib.hid hz
            have HLT2 := Lib.hid (And.intro ht1 hlt2)
            have hcd : (t : Int) ≤ T := by omega
            clear hin6 he6 hpl ht1 ht2 hlt2 z1 z2 z3 z4 z5 z6 hz
            go_wp2_with (at_builtin; refine wpList_append_ex rfl (.tmp 116) (.tmp 117) 35 rfl _ _ _ rfl rfl HZ.out ?_; rintro v' w6 ⟨⟨A9, k9, c9, rfl⟩, hl2, f2, q2, HQ⟩)
            go_roundw
            case rel => exact ⟨t + 1, by have := HLT2.out; omega, .inl (by have := HLT2.out; omega), HQ.out⟩
            case measure =>
              have h1 := HQ.out.len
              have h2 := HT.out.len
              rw [padInt_len] at h1 h2
              have := HLT2.out
              rw [h1, h2]; omega
          · have hpe : padInt W.ldr t = padInt W.ldr (T + 1) := by
              rcases ht2 with ht2 | ht2
              · rw [show t = T + 1 by omega]
              · rw [padInt_self (by omega), padInt_self (by omega)]
            have hcd : ¬ (t : Int) ≤ T := by omega
            have hcd2 : (T : Int) < t := by omega
            have hjt : T < t := by omega
            rw [hpe] at hin6 HT
            obtain ⟨y, hy⟩ : ∃ y, (padInt W.ldr (T + 1))[T]? = some y := ⟨_, List.getElem?_eq_getElem (by rw [padInt_len]; omega)⟩
            obtain ⟨g, N, c7, hv, hNN, hgw, hgl, hgf, _, hput⟩ := put_int hin6 (j := T) (by show T < (padInt W.ldr (T + 1)).length; rw [padInt_len]; omega)
            clear hNN
            injection hv with hv1 hv2 hv3
            subst hv1; subst hv2; subst hv3
            obtain ⟨g', off', hA, hg2, ky⟩ := IntsAt.at? hin6.ldr.slice hy
            injection hA with hA; injection hA with e1 e2
            subst e1; subst e2
            rw [Nat.zero_add] at ky
            have HE6 : Hid (Ext Owners o o6 w wr) := HE3.out.trans (he6.mono (by simp [Owners]))
            have HPUT := Lib.hid (hput k)
            have HH6 := Lib.hid hin6
            have HY := Lib.hid hy
            clear hin6 he6 hpl ht1 ht2 hlt2 hy hput hpe HT
            cases hyb : (y == 0)
            · have hyk : y = k := by
                have h0 : y ≠ 0 := by simpa using hyb
                rcases padInt_get HY.out with h1 | h1
                · exact (HALL.out y h1).resolve_left h0
                · exact absurd h1 h0
              have HL9 : Hid (padInt W.ldr (T + 1) = noteInt W.ldr T k) := by
                show _ = setInt _ _ _
                unfold setInt
                rw [HY.out, Option.getD_some, if_neg (by simpa using hyb)]
              subst hyk
              go_wp2_with fail
              go_ret
              refine ⟨o6, rfl, HE6.out, ?_⟩
              rw [HW2.out.2 _ HL9.out]; exact HH6.out.at_
            · have HL9 : Hid ((padInt W.ldr (T + 1)).set T k = noteInt W.ldr T k) := by
                show _ = setInt _ _ _
                unfold setInt
                rw [HY.out, Option.getD_some, if_pos (by simpa using hyb)]
              go_wp2_with fail
              go_ret
              refine ⟨o6, rfl, HE6.out.trans (HPUT.out.2.mono (by simp [Owners])), ?_⟩
              rw [HW2.out.2 _ HL9.out]; exact HPUT.out.1.at_
      · have hrb : ((W.node k).role != 3) = true := by simpa using hr3
        have HNT : Hid ((W.noted k).ldr = W.ldr) := if_neg hr3
        clear hr3
        go_wp2_with fail
        go_ret
        refine ⟨o3, rfl, HE3.out, ?_⟩
        have := HI3.out.at_
        have e : W.noted k = { W with com := (W.noted k).com } := by
          conv => lhs; rw [show W.noted k = { W with com := (W.noted k).com, ldr := (W.noted k).ldr } from rfl, HNT.out]
        rw [e]; exact this
end Go.Proofs.Ytibkmhacpodceaa

/- What the invariant says of a world, as the walks want it. -/
namespace Go.Proofs.Ytibkmhacpodceaa

theorem owned_ent {H : Hist} {z : Int} (hH : H.Ok) (hz : ∀ T e, H.el T = some e → (e.cur.length : Int) ≤ z) {f : List Ent} (hf : Owned H f) {j : Nat} {x : Ent} (hx : f[j]? = some x) :
    x.index = j + 1 ∧ 0 < x.term ∧ 1 ≤ x.kind ∧ x.kind ≤ 3 ∧ x.data.length ≤ 100 ∧ ((j : Int) + 1 ≤ z) := by
  obtain ⟨h1, h2, h3⟩ := hH.index hf hx
  obtain ⟨e, e1, e2, e3⟩ := hf j x hx
  have h4 := hH.pos _ _ e1
  have h5 := hz _ _ e1
  have h6 := e3.length_le
  have h7 := (List.getElem?_eq_some_iff.1 hx).1
  rw [List.length_take] at h6
  exact ⟨h1, h4, h3.1, h3.2.1, h3.2.2, by omega⟩
theorem lastT_owned {H : Hist} {z : Int} (hH : H.Ok) (hz : ∀ T e, H.el T = some e → (e.cur.length : Int) ≤ z) {f : List Ent} (hf : Owned H f) {t : Int} (ht : 0 ≤ t) (htop : ∀ x, x ∈ f → x.term ≤ t) : 0 ≤ lastT f ∧ lastT f ≤ t := by
  by_cases h0 : 0 < f.length
  · obtain ⟨x, h1, h2, h3⟩ := lastT_mem h0
    have := (owned_ent hH hz hf h2).2.1
    have := htop x h1
    omega
  · have : f = [] := List.eq_nil_of_length_eq_zero (by omega)
    subst this
    rw [lastT_nil]; exact ⟨Int.le_refl _, ht⟩

theorem node_fits {H : Hist} {z : Int} (hH : H.Ok) (hz : ∀ T e, H.el T = some e → (e.cur.length : Int) ≤ z) {k : Int} {r : RaftM} {f : List Ent} (n : NodeOk H k r f) (hb : Bd z r) (hout : r.out = []) (hz1 : z ≤ 1600) (hnn : 0 ≤ z) :
    r.Fits ∧ r.log.last.2 ≤ r.term := by
  obtain ⟨b1, b2, b3, b4, b5, b6, b7⟩ := hb
  have hsi := n.sil
  have h0 := n.si0
  have h1 := n.si1
  have h2 := n.c1
  have hl : (f.length : Int) ≤ z := by
    by_cases h0 : f.length = 0
    · omega
    · obtain ⟨x, hx⟩ : ∃ x, f[f.length - 1]? = some x := ⟨_, List.getElem?_eq_getElem (by omega)⟩
      have := (owned_ent hH hz n.own hx).2.2.2.2.2
      omega
  have hpre : Owned H (f.take r.log.sI.toNat) := n.own.pre (List.take_prefix _ _)
  have hlt := lastT_owned hH hz hpre n.t0 (fun x hx => n.top x (List.mem_of_mem_take hx))
  have hlt2 := lastT_owned hH hz n.own n.t0 n.top
  have hm := membersB_bound (membersB_cfg hH n.own)
  have hm2 := membersB_bound (membersB_cfg hH hpre)
  have hents : r.log.ents.length = f.length - r.log.sI.toNat := by rw [n.ents, List.length_drop]
  have hlog : r.log.Ok := by
    refine ⟨h0, by omega, by rw [n.sT]; exact hlt.1, by rw [n.sT]; omega, by omega, h1, by omega, by rw [n.sM]; exact hm2.1, by rw [n.sM]; exact hm2.2, fun i hi => ?_⟩
    have hx : f[r.log.sI.toNat + i]? = some r.log.ents[i] := by
      have : r.log.ents[i]? = some r.log.ents[i] := List.getElem?_eq_getElem hi
      rw [← this, n.ents, List.getElem?_drop]
    obtain ⟨c1, c2, c3, c4, c5, c6⟩ := owned_ent hH hz n.own hx
    have := n.top _ (List.mem_of_getElem? hx)
    exact ⟨⟨by omega, by omega, by omega, by omega, by omega, c4, c5⟩, by omega⟩
  refine ⟨⟨⟨hlog, by rw [n.id]; exact n.k0, by rw [n.id]; exact n.k1, n.t0, by omega, by rw [n.members]; exact hm.1, by rw [n.members]; exact hm.2, fun q => (b4 q).1, fun q => by have := (b4 q).2.1; omega, fun q => (b4 q).2.2.1, fun q => by have := (b4 q).2.2.2; omega, b5, b2, by omega⟩, by omega, by omega, by rw [hout]; simp, by omega⟩, ?_⟩
  rw [n.last2 hH]; exact hlt2.2

theorem Inv.mono {z z' : Int} {w : WorldM} (h : Inv z w) (hz : z ≤ z') : Inv z' w where
  ex := by
    obtain ⟨H, fs, hH, hs, hrest⟩ := h.ex
    exact ⟨H, fs, hH, fun T e he => by have := hs T e he; omega, hrest⟩
  nn := by have := h.nn; omega
  bd := fun j a b => ⟨(h.bd j a b).1.mono hz, (h.bd j a b).2⟩
  mb := fun m hm => (h.mb m hm).mono hz

theorem Inv.ready {z : Int} {i : Nat} {W : WorldM} (h : Inv z W) (hl : Lens i z W) (hz : z ≤ 1600) (hi : i ≤ 10000) : Ready W where
  fits := fun j j1 j5 => by
    obtain ⟨H, fs, hH, hs, hnode, _⟩ := h.ex
    have hb := h.bd j (by omega) (by omega)
    obtain ⟨q1, q2⟩ := node_fits hH hs (hnode j (by omega) (by omega)) hb.1 hb.2 hz h.nn
    obtain ⟨⟨b1, b2, b3, b4, b5, b6, b7⟩, b8⟩ := hb
    exact ⟨q1, by omega, by omega, b8, by omega, q2, fun q => by have := (b4 q).2.2.2; omega⟩
  msg := fun m hm => by
    obtain ⟨H, fs, hH, hs, hnode, hmsg, _⟩ := h.ex
    have hb := h.mb m hm
    have ho := hmsg m hm
    obtain ⟨c1, c2, c3, c4, c5, c6, c7, c8, c9, c10⟩ := hb
    refine ⟨⟨by omega, by omega, by omega, by omega, c7, fun x hx => ?_, c9, c10⟩, by omega, ho.f0, ho.f1, c2.1, c2.2⟩
    obtain ⟨d1, d2, d3, d4, d5, d6, d7⟩ := c8 x hx
    exact ⟨d1, by omega, d3, by omega, by omega, d6, d7⟩
  len := fun k r h1 h5 hn => by
    have := h.lens h1 h5 hn
    have := hl.sent
    omega
end Go.Proofs.Ytibkmhacpodceaa
