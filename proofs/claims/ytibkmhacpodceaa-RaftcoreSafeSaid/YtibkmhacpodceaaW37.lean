/- Walks: Encode: it returns. -/
import Derived.Test.YtibkmhacpodceaaW36
import Derived.Deep.CutBlock
namespace Go.Proofs.Ytibkmhacpodceaa
open Go.RowKit

structure Msg.Small (m : Msg) : Prop where
  term : 0 ≤ m.term ∧ m.term ≤ 50000
  index : 0 ≤ m.index ∧ m.index ≤ 50000
  logTerm : 0 ≤ m.logTerm ∧ m.logTerm ≤ 50000
  commit : 0 ≤ m.commit ∧ m.commit ≤ 50000
  elen : m.entries.length ≤ 64
  ent : ∀ x, x ∈ m.entries → x.Ok
  mem : m.members.length ≤ 5
  data : m.data.length ≤ 100
theorem Msg.Small.ents {m : Msg} (h : m.Small) : MsgEnts m.entries := ⟨by have := h.elen; omega, h.ent⟩

abbrev Pin := Nat × Nat × List Value
def EncInv (w : World) (ps : List Pin) (wb n : Nat) (wr : World) : Prop := ∃ o, WrAt o 1 wr wb n ∧ Ext [1] zeroOwn o w wr ∧ ∀ p, p ∈ ps → Blk wr p.1 p.2.1 p.2.2 ∧ o p.1 = 0

section
variable {w wr : World} {ps : List Pin} {wb n : Nat}
theorem EncInv.alloc (h : EncInv w ps wb n wr) (x : Obj) : EncInv w ps wb n (wr.alloc x) := by
  obtain ⟨o, h1, h2, h3⟩ := h
  have hb : Below wr.heap.size wr (wr.alloc x) := (Below.refl _ _).alloc (Nat.le_refl _) _
  exact ⟨o, h1.below hb (h2.wf (wf_zero w)), h2.alloc x, fun p hp => ⟨(h3 p hp).1.alloc x, (h3 p hp).2⟩⟩
theorem EncInv.pin (h : EncInv w ps wb n wr) (E : Nat) (cs : List Value) : EncInv w ((wr.heap.size, E, cs) :: ps) wb n (wr.alloc (.cells cs.toArray E)) := by
  obtain ⟨o, h1, h2, h3⟩ := h
  have hb : Below wr.heap.size wr (wr.alloc (.cells cs.toArray E)) := (Below.refl _ _).alloc (Nat.le_refl _) _
  refine ⟨o, h1.below hb (h2.wf (wf_zero w)), h2.alloc _, fun p hp => ?_⟩
  rcases List.mem_cons.1 hp with rfl | hp
  · exact ⟨Blk.new wr E cs, (h2.wf (wf_zero w)) _ (Nat.le_refl _)⟩
  · exact ⟨(h3 p hp).1.alloc _, (h3 p hp).2⟩
theorem EncInv.drop {p : Pin} (h : EncInv w (p :: ps) wb n wr) : EncInv w ps wb n wr := by
  obtain ⟨o, h1, h2, h3⟩ := h
  exact ⟨o, h1, h2, fun q hq => h3 q (List.mem_cons_of_mem _ hq)⟩
theorem EncInv.mono {n' : Nat} (h : EncInv w ps wb n wr) (hn : n ≤ n') : EncInv w ps wb n' wr := by
  obtain ⟨o, h1, h2, h3⟩ := h
  exact ⟨o, h1.mono hn, h2, h3⟩
theorem EncInv.wrote {o : Own} {e : Ending} {w' : World} {n' : Nat} (h2 : Ext [1] zeroOwn o w wr) (h3 : ∀ p, p ∈ ps → Blk wr p.1 p.2.1 p.2.2 ∧ o p.1 = 0) (hw : WroteIs o 1 wb n' wr e w') : (∃ v, e = .returned v) ∧ Hid (EncInv w ps wb n' w') := by
  obtain ⟨hv, o2, k1, k2⟩ := hw
  refine ⟨hv, o2, k1, h2.trans k2, fun p hp => ?_⟩
  obtain ⟨a1, a2⟩ := h3 p hp
  exact ⟨k2.blk a1 (by rw [a2]; simp), (k2.own _ a1.lt).trans a2⟩
theorem EncInv.count (h : EncInv w ps wb n wr) (hn : n ≤ 400000) (g : Nat) (hg : g = wr.heap.size) (xs : List Int) (hx : ∀ x, x ∈ xs → 0 ≤ x ∧ x ≤ 100000) (hl : xs.length ≤ 5) :
    Calls Try.prog 61 #[.pointer (some ⟨wb, 0, none⟩), .slice (some ⟨g, 0, none⟩) xs.length xs.length] (wr.alloc (.cells (xs.map (Value.int .i64)).toArray 3)) fun e w' => (∃ v, e = .returned v) ∧ Hid (EncInv w ps wb (n + 800 * xs.length) w') := by
  subst hg
  obtain ⟨o, h1, h2, h3⟩ := h
  have hw : Wf o wr := h2.wf (wf_zero w)
  have hb : Below wr.heap.size wr (wr.alloc (.cells (xs.map (Value.int .i64)).toArray 3)) := (Below.refl _ _).alloc (Nat.le_refl _) _
  have hI : IntsAt (Of o 0) (wr.alloc (.cells (xs.map (Value.int .i64)).toArray 3)) (.slice (some ⟨wr.heap.size, 0, none⟩) xs.length xs.length) xs := by
    have hB := Blk.new wr 3 (xs.map (Value.int .i64))
    refine ⟨_, xs.length, xs.map (Value.int .i64), rfl, Nat.le_refl _, ?_, fun _ => ⟨wr.heap.size, 0, rfl, hw _ (Nat.le_refl _), hB.lt, fun j u hu => by rw [Nat.zero_add, hB.cell, hu]⟩⟩
    have : ∀ ys : List Int, Elems 1 IntR ys (ys.map (Value.int .i64)) := by
      intro ys
      induction ys with
      | nil => rfl
      | cons y ys ih => exact ⟨by simp, by simp [IntR], by simpa using ih⟩
    exact this xs
  refine (count61 o 1 wb n _ _ _ xs _ (h1.below hb hw) (by omega) hI hl hx (fun b hb' => hw b (Nat.le_trans hb.size hb')) (by omega)).mono ?_
  intro e w' hq
  exact EncInv.wrote (h2.alloc _) (fun p hp => ⟨(h3 p hp).1.alloc _, (h3 p hp).2⟩) hq
theorem EncInv.byte (h : EncInv w ps wb n wr) (hn : n ≤ 400000) (x : Int) :
    Calls Try.prog 63 #[.pointer (some ⟨wb, 0, none⟩), .int .i64 x] wr fun e w' => (∃ v, e = .returned v) ∧ Hid (EncInv w ps wb (n + 1) w') := by
  obtain ⟨o, h1, h2, h3⟩ := h
  exact (byte63 o 1 wb n x _ h1 (by omega) (h2.wf (wf_zero w)) (by omega)).mono fun e w' hq => EncInv.wrote h2 h3 hq
theorem EncInv.truth (h : EncInv w ps wb n wr) (hn : n ≤ 400000) (x : Bool) :
    Calls Try.prog 62 #[.pointer (some ⟨wb, 0, none⟩), .bool x] wr fun e w' => (∃ v, e = .returned v) ∧ Hid (EncInv w ps wb (n + 1) w') := by
  obtain ⟨o, h1, h2, h3⟩ := h
  exact (truth62 o 1 wb n x _ h1 (by omega) (h2.wf (wf_zero w)) (by omega)).mono fun e w' hq => EncInv.wrote h2 h3 hq
theorem EncInv.text (h : EncInv w ps wb n wr) (hn : n ≤ 400000) {A : Option Addr} {n0 c0 : Nat} {ds : List Int} {B : Nat → Prop} (hD : BytesAt B w (.slice A n0 c0) ds) (hl : ds.length ≤ 100) :
    Calls Try.prog 64 #[.pointer (some ⟨wb, 0, none⟩), .slice A n0 c0] wr fun e w' => (∃ v, e = .returned v) ∧ Hid (EncInv w ps wb (n + 900) w') := by
  obtain ⟨o, h1, h2, h3⟩ := h
  have hD' : BytesAt (Of o 0) wr (.slice A n0 c0) ds := BytesAt.stays (BytesAt.stays hD (Stays.weak (B' := Of zeroOwn 0) _ fun _ _ => rfl)) (h2.stays (by simp))
  refine (text64 o 1 wb n A n0 c0 ds _ h1 (by omega) hD' (by omega) (h2.wf (wf_zero w)) (by omega)).mono fun e w' hq => ?_
  obtain ⟨g1, g2⟩ := EncInv.wrote h2 h3 hq
  exact ⟨g1, g2.out.mono (by omega)⟩
theorem EncInv.below (h : EncInv w ps wb n wr) : Below w.heap.size w wr := by
  obtain ⟨o, _, h2, _⟩ := h
  exact h2.zero_below (by simp)
theorem EncInv.box {p : Pin} (h : EncInv w ps wb n wr) (hp : p ∈ ps) : Blk wr p.1 p.2.1 p.2.2 := by
  obtain ⟨o, _, _, h3⟩ := h
  exact (h3 p hp).1
theorem EncInv.row (h : EncInv w ps wb n wr) : ∃ A k c, Blk wr wb 102 [.slice A k c] ∧ k ≤ c := by
  obtain ⟨o, ⟨A, k, c, l, h1, _, ⟨A', c', xs, he, hle, _⟩, _⟩, _⟩ := h
  cases he
  exact ⟨A, _, c, h1, hle⟩
theorem EncInv.start {w1 : World} {pr E : Nat} {mc cs : List Value} (hb : Below w.heap.size w w1) (hp : Blk w1 pr E mc) (hlen : cs.length = 4) (hc : ∀ u, u ∈ cs → ∃ x : Int, u = .int .u8 x ∧ 0 ≤ x ∧ x < 256) :
    EncInv w [(pr, E, mc)] (w1.heap.size + 1) 4 ((w1.alloc (.cells cs.toArray 5)).alloc (.cells #[.slice (some ⟨w1.heap.size, 0, none⟩) 4 4] 102)) := by
  have e0 : Ext [1] zeroOwn zeroOwn w w1 := Ext.of_below hb (wf_zero w)
  have hs : w.heap.size ≤ w1.heap.size := hb.size
  have e1 := (((e0.alloc (.cells cs.toArray 5)).alloc (.cells #[.slice (some ⟨w1.heap.size, 0, none⟩) 4 4] 102)).give (g := w1.heap.size) (k := 1) hs (by simp; omega)).give (g := w1.heap.size + 1) (k := 1) (by omega) (by simp)
  have hpl := hp.lt
  refine ⟨_, ⟨_, 4, 4, cs.map (fun u => match u with | .int _ x => x | _ => 0), (by
    have := Blk.new (w1.alloc (.cells cs.toArray 5)) 102 [.slice (some ⟨w1.heap.size, 0, none⟩) 4 4]
    simpa using this), upd_same _ _ _, ?_, by simp [hlen]⟩, e1, fun p hp0 => ?_⟩
  · have hB5 : Blk ((w1.alloc (.cells cs.toArray 5)).alloc (.cells #[.slice (some ⟨w1.heap.size, 0, none⟩) 4 4] 102)) w1.heap.size 5 cs := (Blk.new w1 5 cs).alloc _
    refine ⟨_, 4, cs, by rw [List.length_map, hlen], by rw [List.length_map, hlen]; exact Nat.le_refl _, by decide, ?_, fun _ => ⟨w1.heap.size, cs.toArray, rfl, ?_, hB5, by simp [hlen], ?_⟩⟩
    · have : ∀ us : List Value, (∀ u, u ∈ us → ∃ x : Int, u = .int .u8 x ∧ 0 ≤ x ∧ x < 256) → Elems 1 ByteR (us.map (fun u => match u with | .int _ x => x | _ => 0)) us := by
        intro us
        induction us with
        | nil => intro _; rfl
        | cons u us ih =>
          intro hu
          obtain ⟨x, rfl, h0, h1⟩ := hu u (by simp)
          exact ⟨by simp, by simp [ByteR, h0, h1], by simpa using ih fun y hy => hu y (by simp [hy])⟩
      exact this cs hc
    · rw [upd_other _ (by omega)]; exact upd_same _ _ _
    · rw [List.length_map, hlen]
      simp [← hlen]
  · obtain rfl := List.mem_singleton.1 hp0
    refine ⟨(hp.alloc _).alloc _, ?_⟩
    show upd _ _ _ pr = 0
    rw [upd_other _ (by omega), upd_other _ (by omega)]; rfl
end

def EncodeIs (w : World) (e : Ending) (w' : World) : Prop := (∃ v er, e = .returned (.tuple #[v, .int .i64 er])) ∧ Below w.heap.size w w'

set_option maxRecDepth 100000 in
set_option maxHeartbeats 8000000 in
theorem encode37 (m : Msg) (A n c A2 n2 c2 A3 n3 c3) (B B2 B3 B4 : Nat → Prop) (w : World) (hS : m.Small) (hE : EntsAt B B2 w (.slice A n c) m.entries) (hI : IntsAt B3 w (.slice A2 n2 c2) m.members) (hD : BytesAt B4 w (.slice A3 n3 c3) m.data) :
    Calls Try.prog 37 #[.agg #[.int .i64 m.kind, .int .i64 m.group, .int .i64 m.from_, .int .i64 m.to_, .int .i64 m.term, .int .i64 m.index, .int .i64 m.logTerm, .int .i64 m.commit, .bool m.ok, .slice A n c, .slice A2 n2 c2, .slice A3 n3 c3]] w (EncodeIs w) := by
  have HE := Lib.hid hE
  have HI := Lib.hid hI
  have HD := Lib.hid hD
  have HS := Lib.hid hS
  have hn := hE.len.1
  have hn2 := hI.len.1
  have hn3 := hD.len.1
  have HN := Lib.hid (And.intro hn hn2)
  have hnb : n ≤ 64 := by have := hS.elen; omega
  have hnb2 : n2 ≤ 5 := by have := hS.mem; omega
  have HBA : Hid (∀ y, Below w.heap.size w (w.alloc y)) := fun y => (Below.refl _ _).alloc (Nat.le_refl _) _
  have HB0 := Lib.hid (Blk.new w 48 (msgCells m (.slice A n c) (.slice A2 n2 c2) (.slice A3 n3 c3)))
  clear hE hI hD hS hn hn2 hn3
  go_enter Try.func37, Try.ntmps37
  go_wp2_with fail
  refine (right60 m A n c A2 n2 c2 A3 n3 c3 B B2 B3 B4 _ HS.out.ents (by have := HS.out.index; omega) (by have := HS.out.index; omega) (EntsAt.stays HE.out (Stays.of_below (HBA.out _)) (Stays.of_below (HBA.out _))) (IntsAt.stays HI.out (Stays.of_below (HBA.out _))) (BytesAt.stays HD.out (Stays.of_below (HBA.out _))) (by have := HS.out.mem; omega) (by have := HS.out.data; omega)).mono ?_
  rintro e w1 ⟨⟨rb, rfl⟩, hb1⟩
  have HB1 : Hid (Below w.heap.size w w1 ∧ Blk w1 w.heap.size 48 (msgCells m (.slice A n c) (.slice A2 n2 c2) (.slice A3 n3 c3))) := ⟨(HBA.out _).trans (hb1.mono (by simp)), HB0.out.same (hb1.block _ (by simp))⟩
  have km := HB1.out.2.cells
  unfold msgCells at km
  have hml := HB1.out.2.lt
  clear hb1
  cases rb
  · go_wp2
    go_returns
    exact ⟨⟨_, _, rfl⟩, HB1.out.1⟩
  · go_wp2_with fail
    have hI0 := EncInv.start (w := w) (cs := [.int .u8 (m.kind % 256), .int .u8 (m.group % 256), .int .u8 (m.from_ % 256), .int .u8 (m.to_ % 256)]) HB1.out.1 HB1.out.2 rfl (by
      intro u hu
      simp only [List.mem_cons, List.not_mem_nil, or_false] at hu
      rcases hu with rfl | rfl | rfl | rfl <;> exact ⟨_, rfl, by omega, by omega⟩)
    refine (EncInv.count hI0 (by omega) _ (by simp) [m.term] (by intro x hx; rw [List.mem_singleton.1 hx]; have := HS.out.term; omega) (by simp)).mono ?_
    rintro e w2 ⟨⟨v2, rfl⟩, HI2⟩
    clear hI0 km hml
    have HI2 := Lib.hid HI2.out
    have km := (HI2.out.box (p := (w.heap.size, 48, msgCells m (.slice A n c) (.slice A2 n2 c2) (.slice A3 n3 c3))) (by simp)).cells
    unfold msgCells at km
    have hml := (HI2.out.box (p := (w.heap.size, 48, msgCells m (.slice A n c) (.slice A2 n2 c2) (.slice A3 n3 c3))) (by simp)).lt
    simp only at km hml
    go_upto_block 0 with (fail)
    go_cut [] (fun wx => Hid (EncInv w [(w.heap.size, 48, msgCells m (.slice A n c) (.slice A2 n2 c2) (.slice A3 n3 c3))] (w1.heap.size + 1) 300000 wx))
    case first =>
      cases k1 : (m.kind == 1)
      · cases k2 : (m.kind == 2)
        · cases k3 : (m.kind == 3)
          · cases k4 : (m.kind == 4)
            · cases k5 : (m.kind == 5)
              · go_wp2_with fail
                go_meet
                exact HI2.out.mono (by simp)
              · go_wp2_with fail
                refine (HI2.out.count (by simp) _ rfl [m.index, m.logTerm, (n2 : Int)] (by intro x hx; simp only [List.mem_cons, List.not_mem_nil, or_false] at hx; have := HS.out.index; have := HS.out.logTerm; have := HS.out.mem; rcases hx with rfl | rfl | rfl <;> omega) (by simp)).mono ?_
                rintro e w3 ⟨⟨v3, rfl⟩, HI3⟩
                have km3 := (HI3.out.box (p := (w.heap.size, 48, msgCells m (.slice A n c) (.slice A2 n2 c2) (.slice A3 n3 c3))) (by simp)).cells
                unfold msgCells at km3
                have hml3 := (HI3.out.box (p := (w.heap.size, 48, msgCells m (.slice A n c) (.slice A2 n2 c2) (.slice A3 n3 c3))) (by simp)).lt
                simp only at km3 hml3
                go_wp2_with fail
                go_loopw [110] (fun i wr => ∃ k : Nat, k ≤ n2 ∧ i = .int .i64 k ∧ Hid (EncInv w [(w.heap.size, 48, msgCells m (.slice A n c) (.slice A2 n2 c2) (.slice A3 n3 c3))] (w1.heap.size + 1) (4000 + k) wr)) (fun i _ => n2 - (intOf i).toNat)
                case atStart => exact ⟨0, Nat.zero_le _, rfl, HI3.out.mono (by simp)⟩
                case round =>
                  obtain ⟨k, hk', rfl, HK⟩ := hrel
                  have km4 := (HK.out.box (p := (w.heap.size, 48, msgCells m (.slice A n c) (.slice A2 n2 c2) (.slice A3 n3 c3))) (by simp)).cells
                  unfold msgCells at km4
                  have hml4 := (HK.out.box (p := (w.heap.size, 48, msgCells m (.slice A n c) (.slice A2 n2 c2) (.slice A3 n3 c3))) (by simp)).lt
                  simp only at km4 hml4
                  have km := 0
                  have km3 := 0
                  clear km km3
                  by_cases hlt : k < n2
                  · obtain ⟨x, hx⟩ : ∃ x, m.members[k]? = some x := ⟨_, List.getElem?_eq_getElem (by have := HN.out.2; omega)⟩
                    obtain ⟨g, off, rfl, hg, k0⟩ := IntsAt.at? (IntsAt.stays HI.out (Stays.of_below HK.out.below)) hx
                    have HLT := Lib.hid hlt
                    clear hx
                    go_wp2_with fail
                    refine (HK.out.byte (by omega) _).mono ?_
                    rintro e w4 ⟨⟨v4, rfl⟩, HI4⟩
                    go_wp2_with fail
                    go_roundw
                    case rel => exact ⟨k + 1, by have := HLT.out; omega, by go_num, HI4.out.mono (by omega)⟩
                    case measure => have := HLT.out; simp [intOf]; omega
                  · go_wp2_with fail
                    refine (HK.out.text (by omega) HD.out (by have := HS.out.data; omega)).mono ?_
                    rintro e w4 ⟨⟨v4, rfl⟩, HI4⟩
                    go_wp2_with fail
                    go_meet
                    exact HI4.out.mono (by omega)
            · go_wp2_with fail
              refine (HI2.out.truth (by simp) _).mono ?_
              rintro e w3 ⟨⟨v3, rfl⟩, HI3⟩
              have km3 := (HI3.out.box (p := (w.heap.size, 48, msgCells m (.slice A n c) (.slice A2 n2 c2) (.slice A3 n3 c3))) (by simp)).cells
              unfold msgCells at km3
              have hml3 := (HI3.out.box (p := (w.heap.size, 48, msgCells m (.slice A n c) (.slice A2 n2 c2) (.slice A3 n3 c3))) (by simp)).lt
              simp only at km3 hml3
              go_wp2_with fail
              refine (HI3.out.count (by simp) _ rfl [m.index] (by intro x hx; simp only [List.mem_cons, List.not_mem_nil, or_false] at hx; have := HS.out.index; rcases hx with rfl <;> omega) (by simp)).mono ?_
              rintro e w4 ⟨⟨v4, rfl⟩, HI4⟩
              go_wp2_with fail
              go_meet
              exact HI4.out.mono (by simp)
          · go_wp2_with fail
            refine (HI2.out.count (by simp) _ rfl [m.index, m.logTerm, m.commit, (n : Int)] (by intro x hx; simp only [List.mem_cons, List.not_mem_nil, or_false] at hx; have := HS.out.index; have := HS.out.logTerm; have := HS.out.commit; rcases hx with rfl | rfl | rfl | rfl <;> omega) (by simp)).mono ?_
            rintro e w3 ⟨⟨v3, rfl⟩, HI3⟩
            have km3 := (HI3.out.box (p := (w.heap.size, 48, msgCells m (.slice A n c) (.slice A2 n2 c2) (.slice A3 n3 c3))) (by simp)).cells
            unfold msgCells at km3
            have hml3 := (HI3.out.box (p := (w.heap.size, 48, msgCells m (.slice A n c) (.slice A2 n2 c2) (.slice A3 n3 c3))) (by simp)).lt
            simp only at km3 hml3
            go_wp2_with fail
            go_loopw [66] (fun i wr => ∃ k : Nat, k ≤ n ∧ i = .int .i64 k ∧ Hid (EncInv w [(w.heap.size, 48, msgCells m (.slice A n c) (.slice A2 n2 c2) (.slice A3 n3 c3))] (w1.heap.size + 1) (5000 + 1701 * k) wr)) (fun i _ => n - (intOf i).toNat)
            case atStart => exact ⟨0, Nat.zero_le _, rfl, HI3.out.mono (by simp)⟩
            case round =>
              obtain ⟨k, hk', rfl, HK⟩ := hrel
              have km4 := (HK.out.box (p := (w.heap.size, 48, msgCells m (.slice A n c) (.slice A2 n2 c2) (.slice A3 n3 c3))) (by simp)).cells
              unfold msgCells at km4
              have hml4 := (HK.out.box (p := (w.heap.size, 48, msgCells m (.slice A n c) (.slice A2 n2 c2) (.slice A3 n3 c3))) (by simp)).lt
              simp only at km4 hml4
              by_cases hlt : k < n
              · obtain ⟨x, hx⟩ : ∃ x, m.entries[k]? = some x := ⟨_, List.getElem?_eq_getElem (by have := HN.out.1; omega)⟩
                obtain ⟨g, off, A9, n9, c9, rfl, hg, k0, k1, k2, k3, hD9⟩ := EntsAt.at? HE.out hx
                have hbk : ∀ j, wr.cell? ⟨g, j, none⟩ = w.cell? ⟨g, j, none⟩ := fun j => World.cell?_of_block (HK.out.below.block g hg)
                rw [← hbk] at k0 k1 k2 k3
                have hg := Nat.lt_of_lt_of_le hg HK.out.below.size
                clear hbk
                have HXO := Lib.hid (HS.out.ent x (List.mem_of_getElem? hx))
                have HLT := Lib.hid hlt
                have HD9 := Lib.hid hD9
                clear hx hD9
                go_wp2_with fail
                have hP := HK.out.pin 63 [.int .i64 x.index, .int .i64 x.term, .int .i64 x.kind, .slice A9 n9 c9]
                refine (hP.count (by omega) _ (by simp) [x.term] (by intro y hy; rw [List.mem_singleton.1 hy]; have := HXO.out.t0; have := HXO.out.t1; omega) (by simp)).mono ?_
                rintro e w5 ⟨⟨v5, rfl⟩, HI5⟩
                have km5 := (HI5.out.box (p := (w.heap.size, 48, msgCells m (.slice (some ⟨g, off, none⟩) n c) (.slice A2 n2 c2) (.slice A3 n3 c3))) (by simp)).cells
                unfold msgCells at km5
                have hml5 := (HI5.out.box (p := (w.heap.size, 48, msgCells m (.slice (some ⟨g, off, none⟩) n c) (.slice A2 n2 c2) (.slice A3 n3 c3))) (by simp)).lt
                have ke5 := (HI5.out.box (p := (wr.heap.size, 63, [.int .i64 x.index, .int .i64 x.term, .int .i64 x.kind, .slice A9 n9 c9])) (by simp)).cells
                have hme5 := (HI5.out.box (p := (wr.heap.size, 63, [.int .i64 x.index, .int .i64 x.term, .int .i64 x.kind, .slice A9 n9 c9])) (by simp)).lt
                simp only at km5 hml5 ke5 hme5
                clear hP
                go_wp2_with fail
                refine (HI5.out.byte (by simp; omega) _).mono ?_
                rintro e w6 ⟨⟨v6, rfl⟩, HI6⟩
                have km6 := (HI6.out.box (p := (w.heap.size, 48, msgCells m (.slice (some ⟨g, off, none⟩) n c) (.slice A2 n2 c2) (.slice A3 n3 c3))) (by simp)).cells
                unfold msgCells at km6
                have hml6 := (HI6.out.box (p := (w.heap.size, 48, msgCells m (.slice (some ⟨g, off, none⟩) n c) (.slice A2 n2 c2) (.slice A3 n3 c3))) (by simp)).lt
                have ke6 := (HI6.out.box (p := (wr.heap.size, 63, [.int .i64 x.index, .int .i64 x.term, .int .i64 x.kind, .slice A9 n9 c9])) (by simp)).cells
                have hme6 := (HI6.out.box (p := (wr.heap.size, 63, [.int .i64 x.index, .int .i64 x.term, .int .i64 x.kind, .slice A9 n9 c9])) (by simp)).lt
                simp only at km6 hml6 ke6 hme6
                go_wp2_with fail
                refine (HI6.out.text (by simp; omega) (A := A9) (n0 := n9) (c0 := c9) HD9.out (by have := HXO.out.d; omega)).mono ?_
                rintro e w7 ⟨⟨v7, rfl⟩, HI7⟩
                go_wp2_with fail
                go_roundw
                case rel => exact ⟨k + 1, by have := HLT.out; omega, by go_num, HI7.out.drop.mono (by simp; omega)⟩
                case measure => have := HLT.out; simp [intOf]; omega
              · go_wp2_with fail
                go_meet
                exact HK.out.mono (by omega)
        · go_wp2_with fail
          refine (HI2.out.truth (by simp) _).mono ?_
          rintro e w3 ⟨⟨v3, rfl⟩, HI3⟩
          go_wp2_with fail
          go_meet
          exact HI3.out.mono (by simp)
      · go_wp2_with fail
        refine (HI2.out.count (by simp) _ rfl [m.index, m.logTerm] (by intro x hx; simp only [List.mem_cons, List.not_mem_nil, or_false] at hx; have := HS.out.index; have := HS.out.logTerm; rcases hx with rfl | rfl <;> omega) (by simp)).mono ?_
        rintro e w3 ⟨⟨v3, rfl⟩, HI3⟩
        go_wp2_with fail
        go_meet
        exact HI3.out.mono (by simp)
    case rest =>
      have HI9 := Lib.hid hcut.out
      have km9 := (HI9.out.box (p := (w.heap.size, 48, msgCells m (.slice A n c) (.slice A2 n2 c2) (.slice A3 n3 c3))) (by simp)).cells
      unfold msgCells at km9
      have hml9 := (HI9.out.box (p := (w.heap.size, 48, msgCells m (.slice A n c) (.slice A2 n2 c2) (.slice A3 n3 c3))) (by simp)).lt
      simp only at km9 hml9
      clear hcut km
      obtain ⟨A8, k8, c8, hB8, hle8⟩ := HI9.out.row
      have kb8 := hB8.cells
      have hl8 := hB8.lt
      clear hB8
      go_wp2_with fail
      refine (clip65 _ _ _ _ hle8).mono ?_
      rintro e w4 ⟨⟨v4, rfl⟩, rfl⟩
      go_wp2_with fail
      go_returns
      exact ⟨⟨_, _, rfl⟩, HI9.out.below⟩
end Go.Proofs.Ytibkmhacpodceaa
