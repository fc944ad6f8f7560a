/- Walks: Clip, named, own, owned, right, follow, a point's right and copied. -/
import Derived.Test.YtibkmhacpodceaaW2
import Derived.BigRegion
import Derived.Deep.RegionLaw
import Derived.Lib.Hide
namespace Go.Proofs.Ytibkmhacpodceaa
open Go.RowKit

/-- A made slice of length 0. -/
theorem RowOf.made {α : Type} {sz : Nat} {R : α → List Value → Prop} {E : TypeId} {o : Own} {k c : Nat} {w : World} (cur : Array Value) (ho : o w.heap.size = k) (hc : cur.size = c * sz) (hm : c ≤ maxLen) :
    RowOf sz R E o k (w.alloc (.cells cur E)) (.slice (some ⟨w.heap.size, 0, none⟩) 0 c) [] :=
  ⟨_, c, [], rfl, Nat.zero_le _, hm, rfl, fun _ => ⟨w.heap.size, cur, rfl, ho, heap_alloc_new w _, by omega, by simp⟩⟩

theorem run_make0 {P : Program} (t e : TypeId) (i : TypeInfo) (z : Value) (ht : P.underlying t = some (.slice e)) (hi : P.info? e = some i) (hz : i.zero = some z)
    (c : Nat) (hbytes : i.bytes * c ≤ 281474976710656) (h63 : c ≤ 9223372036854775807) (w : World) :
    (Instr.makeSlice t (.int .i64 0) (.int .i64 (c : Int))).run P w = .ok (.slice (some ⟨w.heap.size, 0, none⟩) 0 c) (w.alloc (.cells (madeCells z.cells (c * i.size)) e)) := by
  have hb : (i.bytes : Int) * (c : Int) ≤ 281474976710656 := by
    have h : ((i.bytes * c : Nat) : Int) ≤ 281474976710656 := by omega
    rwa [Int.natCast_mul] at h
  have hr := run_make (P := P) w t e i z ht hi hz .i64 .i64 0 c (by omega) (by omega) hb (by omega)
  simp only [Int.toNat_natCast] at hr
  exact hr

theorem make_bytes (c : Nat) (hc : c ≤ 100000) : ∃ cur : Array Value, cur.size = c * 1 ∧ ∀ w : World, (Instr.makeSlice 46 (.int .i64 0) (.int .i64 (c : Int))).run Try.prog w = .ok (.slice (some ⟨w.heap.size, 0, none⟩) 0 c) (w.alloc (.cells cur 5)) := by
  obtain ⟨i, hi, hz, hs, hb⟩ := parts_byte
  have h := run_make0 (P := Try.prog) 46 5 i _ Try.underlying46 hi hz c (by rw [hb]; omega) (by omega)
  exact ⟨_, by rw [size_madeCells, hs], h⟩
theorem make_ents (c : Nat) (hc : c ≤ 100000) : ∃ cur : Array Value, cur.size = c * 4 ∧ ∀ w : World, (Instr.makeSlice 43 (.int .i64 0) (.int .i64 (c : Int))).run Try.prog w = .ok (.slice (some ⟨w.heap.size, 0, none⟩) 0 c) (w.alloc (.cells cur 63)) := by
  obtain ⟨i, hi, hz, hs, hb⟩ := parts_ent
  have h := run_make0 (P := Try.prog) 43 63 i _ Try.underlying43 hi hz c (by rw [hb]; omega) (by omega)
  exact ⟨_, by rw [size_madeCells, hs], h⟩

set_option maxHeartbeats 400000 in
theorem clip55 (A : Option Addr) (n c : Nat) (w : World) (hn : n ≤ c) :
    Calls Try.prog 55 #[.slice A n c] w fun e w' => e = .returned (.slice A n n) ∧ w' = w := by
  go_enter Try.func55, Try.ntmps55
  rcases A with _ | ad
  all_goals
    go_wp2
    go_ret
    exact ⟨rfl, rfl⟩

def OwnEnt (x : Ent) (w : World) (e : Ending) (w' : World) : Prop :=
  ∃ A n c, e = .returned (.agg #[.int .i64 x.index, .int .i64 x.term, .int .i64 x.kind, .slice A n c]) ∧ BytesAt (From w.heap.size) w' (.slice A n c) x.data ∧ Below w.heap.size w w'

set_option maxHeartbeats 400000 in
theorem own54 (x : Ent) (A : Option Addr) (n c : Nat) (B : Nat → Prop) (w : World) (h : BytesAt B w (.slice A n c) x.data) (hl : x.data.length ≤ 30000) :
    Calls Try.prog 54 #[.agg #[.int .i64 x.index, .int .i64 x.term, .int .i64 x.kind, .slice A n c]] w (OwnEnt x w) := by
  obtain ⟨rfl, hc⟩ := h.len
  obtain ⟨cur, hcs, hmk⟩ := make_bytes x.data.length (by omega)
  have b0 : Blk (((w.alloc (.cells #[.int .i64 x.index, .int .i64 x.term, .int .i64 x.kind, .slice A x.data.length c] 63)).alloc (.cells #[.int .i64 0, .int .i64 0, .int .i64 0, .slice none 0 0] 63)).alloc (.cells cur 5)).drew w.heap.size 63 [.int .i64 x.index, .int .i64 x.term, .int .i64 x.kind, .slice A x.data.length c] :=
    (((Blk.new w 63 _).alloc _).alloc _).drew
  have b1 : Blk (((w.alloc (.cells #[.int .i64 x.index, .int .i64 x.term, .int .i64 x.kind, .slice A x.data.length c] 63)).alloc (.cells #[.int .i64 0, .int .i64 0, .int .i64 0, .slice none 0 0] 63)).alloc (.cells cur 5)).drew (w.heap.size + 1) 63 [.int .i64 0, .int .i64 0, .int .i64 0, .slice none 0 0] := by
    have := ((Blk.new (w.alloc (.cells #[.int .i64 x.index, .int .i64 x.term, .int .i64 x.kind, .slice A x.data.length c] 63)) 63 [.int .i64 0, .int .i64 0, .int .i64 0, .slice none 0 0]).alloc (.cells cur 5)).drew
    simp only [World.size_alloc] at this
    exact this
  have HA : Hid (∃ v' w', (Builtin.append_ #[46, 46] 46 #[.slice (some ⟨w.heap.size + 1 + 1, 0, none⟩) 0 x.data.length, .slice A x.data.length c]).run Try.prog
      (((w.alloc (.cells #[.int .i64 x.index, .int .i64 x.term, .int .i64 x.kind, .slice A x.data.length c] 63)).alloc (.cells #[.int .i64 0, .int .i64 0, .int .i64 0, .slice none 0 0] 63)).alloc (.cells cur 5)).drew = .ok v' w' ∧
      ∃ A' n' c', v' = .slice A' n' c' ∧ (∀ i, w'.cell? ⟨w.heap.size, i, none⟩ = [.int .i64 x.index, .int .i64 x.term, .int .i64 x.kind, .slice A x.data.length c][i]?) ∧ (∀ i, w'.frozen? ⟨w.heap.size, i, none⟩ = false) ∧
        (∀ i, w'.cell? ⟨w.heap.size + 1, i, none⟩ = [.int .i64 0, .int .i64 0, .int .i64 0, .slice none 0 0][i]?) ∧ (∀ i, w'.frozen? ⟨w.heap.size + 1, i, none⟩ = false) ∧ w.heap.size + 1 < w'.heap.size ∧ Below w.heap.size w w' ∧ Hid (BytesAt (From (w.heap.size + 1 + 1)) w' v' x.data)) := by
    obtain ⟨v', w', h1, o', h2, h3, _⟩ := append_bytes (o := upd zeroOwn (w.heap.size + 1 + 1) 1) (k := 1) (al := []) (bl := x.data) (B := B)
      (w := (((w.alloc (.cells #[.int .i64 x.index, .int .i64 x.term, .int .i64 x.kind, .slice A x.data.length c] 63)).alloc (.cells #[.int .i64 0, .int .i64 0, .int .i64 0, .slice none 0 0] 63)).alloc (.cells cur 5)).drew)
      (v := .slice (some ⟨w.heap.size + 1 + 1, 0, none⟩) 0 x.data.length) (x := .slice A x.data.length c) 46
      (by
        have := RowOf.made (sz := 1) (R := ByteR) (E := 5) (o := upd zeroOwn (w.heap.size + 1 + 1) 1) (k := 1) (c := x.data.length) (w := (w.alloc (.cells #[.int .i64 x.index, .int .i64 x.term, .int .i64 x.kind, .slice A x.data.length c] 63)).alloc (.cells #[.int .i64 0, .int .i64 0, .int .i64 0, .slice none 0 0] 63)) cur (by simp [upd]) hcs (by simp only [maxLen]; omega)
        simp only [World.size_alloc] at this
        exact this)
      (BytesAt.stays h (Stays.of_below ((((Below.refl _ _).alloc (Nat.le_refl _) _).alloc (by simp) _).alloc (by simp; omega) _).drew))
      (by simp; omega)
    obtain ⟨A', c', rfl, _⟩ := h2.form
    have hb : Below w.heap.size w w' := by
      refine ((((Below.refl w.heap.size w).alloc (Nat.le_refl _) _).alloc (by simp) _).alloc (by simp; omega) _).drew.trans ⟨h3.os, h3.tape, h3.output, h3.size, fun b hb => h3.keep b (by simp; omega) (by simp only [upd, zeroOwn]; split; omega; simp)⟩
    have k0 := h3.blk b0 (by simp only [upd, zeroOwn]; split; omega; simp)
    have k1 := h3.blk b1 (by simp only [upd, zeroOwn]; split; omega; simp)
    refine ⟨_, w', h1, A', _, c', rfl, k0.cells, k0.frozens, k1.cells, k1.frozens, k1.lt, hb, h2.slice.imp (fun b hb hl => ?_) (fun _ _ h => h)⟩
    rcases Nat.lt_or_ge b (w.heap.size + 1 + 1) with hlt | hge
    · have := h3.own b (by simp; omega)
      simp only [Of] at hb
      rw [hb] at this
      simp only [upd, zeroOwn] at this
      split at this
      · omega
      · cases this
    · exact hge
  clear hcs b0 b1
  go_enter Try.func54, Try.ntmps54
  go_wp2
  go_region_law (
    (refine step_append_ex rfl (.tmp 6) (.tmp 8) 46 rfl _ _ _ rfl rfl HA.out ?_
     rintro v' w' ⟨A', n', c', rfl, h0, f0, h1, f1, hsz, hbel, HB⟩))
  all_goals go_wp2
  all_goals
    refine bodyPost_ret (v := .agg #[.int .i64 x.index, .int .i64 x.term, .int .i64 x.kind, .slice A' n' c']) ?_ rfl ?_
    · simp [results, Try.results54, go_sem, h1]
    · exact ⟨A', n', c', rfl, BytesAt.stays HB.out (((((((Stays.refl _ w').setCell (by simp [From]; omega) _).setCell (by simp [From]) _).setCell (by simp [From]) _).setCell (by simp [From]) _).setCell (by simp [From]) _).trans (Stays.weak _ fun b hb => by simp only [From] at *; omega)),
        ((((hbel.setCell (by simp) _).setCell (by simp) _).setCell (by simp) _).setCell (by simp) _).setCell (by simp) _⟩

/-- new blocks of owner 0 -/
def NewOf (n : Nat) (o : Own) : Nat → Prop := fun b => n ≤ b ∧ o b = 0

def OwnedInv (l : List Ent) (k : Nat) (o : Own) (w : World) (v : Value) (wr : World) : Prop :=
  RowOf 4 (EntR (NewOf w.heap.size o) wr) 63 o 1 wr v (l.take k) ∧ Ext [1] zeroOwn o w wr

/-- the same entries in new memory, data too -/
def OwnedEnts (l : List Ent) (w : World) (e : Ending) (w' : World) : Prop :=
  ∃ A c, e = .returned (.slice A l.length c) ∧ EntsAt (From w.heap.size) (From w.heap.size) w' (.slice A l.length c) l ∧ Below w.heap.size w w'

theorem take_snoc_ent (l : List Ent) (k : Nat) (h : k < l.length) : l.take k ++ [l[k]] = l.take (k + 1) := (List.take_succ_eq_append_getElem h).symm

theorem owned_step {l : List Ent} {k : Nat} {o : Own} {w wr w1 : World} {v : Value} {x : Ent} {A1 : Option Addr} {n1 c1 : Nat} {cs : Array Value} (hx : x = l[k]?.getD default) (hk : k < l.length) (hl : l.length ≤ 30000)
    (HI : OwnedInv l k o w v wr) (hb1 : Below (wr.alloc (.cells cs 63)).heap.size (wr.alloc (.cells cs 63)) w1)
    (hB1 : BytesAt (From (wr.alloc (.cells cs 63)).heap.size) w1 (.slice A1 n1 c1) x.data) (ty : TypeId) :
    ∃ v' w', (Builtin.append_ #[43, 43] ty #[v, .slice (some ⟨w1.heap.size, 0, none⟩) 1 1]).run Try.prog (w1.alloc (.cells #[.int .i64 x.index, .int .i64 x.term, .int .i64 x.kind, .slice A1 n1 c1] 63)) = .ok v' w' ∧
      ∃ o', Hid (OwnedInv l (k + 1) o' w v' w') := by
  obtain ⟨hr, he⟩ := HI
  have hwf : Wf o wr := he.wf (wf_zero w)
  have e1 : Ext [] o o wr (w1.alloc (.cells #[.int .i64 x.index, .int .i64 x.term, .int .i64 x.kind, .slice A1 n1 c1] 63)) :=
    (Ext.of_below ((((Below.refl wr.heap.size wr).alloc (Nat.le_refl _) (.cells cs 63)).trans (hb1.mono (by simp))).alloc (by have := hb1.size; simp at this; omega) _) hwf)
  have hsz : wr.heap.size < w1.heap.size := by have := hb1.size; simp at this; omega
  have st : Stays (NewOf w.heap.size o) (NewOf w.heap.size o) wr (w1.alloc (.cells #[.int .i64 x.index, .int .i64 x.term, .int .i64 x.kind, .slice A1 n1 c1] 63)) := Stays.of_below e1.below
  have hr1 := hr.stays (o' := o) (k' := 1) (e1.stays (by simp)) (fun _ _ => EntR.stays st)
  have hs : EntsAt Any (NewOf w.heap.size o) (w1.alloc (.cells #[.int .i64 x.index, .int .i64 x.term, .int .i64 x.kind, .slice A1 n1 c1] 63)) (.slice (some ⟨w1.heap.size, 0, none⟩) 1 1) [x] :=
    SliceOf.one (Blk.new w1 63 _) trivial rfl ⟨A1, n1, c1, rfl, BytesAt.stays hB1 (((Stays.refl _ w1).alloc _).trans (Stays.weak _ fun b hb => ⟨by have := he.size; simp [From] at hb; omega, hwf b (by simp [From] at hb; omega)⟩))⟩
  obtain ⟨v', w', h1, o', h2, h3, _⟩ := append_ents2 (fun o' => NewOf w.heap.size o') ty hr1 hs (by simp; omega) (fun o' w' h => ⟨h.size, fun b hb hlt => ⟨⟨hb.1, (h.own b hlt).trans hb.2⟩, h.keep b hlt (by rw [hb.2]; simp)⟩⟩)
  refine ⟨v', w', h1, o', ?_, (he.trans (e1.mono (by simp))).trans h3⟩
  have hxl : x = l[k] := by rw [hx]; simp [hk]
  rw [hxl, take_snoc_ent l k hk] at h2
  exact h2

set_option maxHeartbeats 1000000 in
theorem owned87 (v : Value) (l : List Ent) (B B2 : Nat → Prop) (w : World) (h : EntsAt B B2 w v l) (hl : l.length ≤ 30000) (hd : ∀ (i : Nat) (hi : i < l.length), l[i].data.length ≤ 30000) :
    Calls Try.prog 87 #[v] w (OwnedEnts l w) := by
  obtain ⟨A, c, rfl, hc⟩ := h.form
  obtain ⟨cur, hcs, hmk⟩ := make_ents l.length (by omega)
  have HR : Hid (OwnedInv l 0 (upd zeroOwn w.heap.size 1) w (.slice (some ⟨w.heap.size, 0, none⟩) 0 l.length) (w.alloc (.cells cur 63))) :=
    ⟨RowOf.made cur (by simp [upd]) hcs (by simp only [maxLen]; omega), ((Ext.refl [1] zeroOwn w).alloc _).give (Nat.le_refl _) (by simp)⟩
  clear hcs
  go_enter Try.func87, Try.ntmps87
  go_wp2
  go_loopw [3, 11] (fun x i wr => ∃ (k : Nat) (o : Own), k ≤ l.length ∧ i = .int .i64 k ∧ Hid (OwnedInv l k o w x wr)) (fun _ i _ => l.length - (intOf i).toNat)
  case atStart => exact ⟨0, _, Nat.zero_le _, rfl, HR⟩
  case round =>
    clear HR hmk
    obtain ⟨k, o, hk, rfl, HI⟩ := hrel
    by_cases hlt : k < l.length
    · have hbel : Below w.heap.size w wr := HI.out.2.zero_below (by simp)
      obtain ⟨g, off, A', n', c', rfl, hg, h0, h1, h2, h3, hD⟩ := EntsAt.at_ (EntsAt.stays h (Stays.of_below hbel) (Stays.of_below hbel)) k hlt
      have hdk := hd k hlt
      have HX : Hid (l[k] = l[k]?.getD default) := by unfold Hid; simp [hlt]
      clear hd
      generalize l[k] = x at *
      go_wp2_with fail
      refine (own54 x A' n' c' B2 _ (BytesAt.stays hD ((Stays.refl B2 wr).alloc _)) hdk).mono ?_
      rintro e w1 ⟨A1, n1, c1, rfl, hB1, hb1⟩
      have HA := Lib.hid (owned_step HX.out hlt hl HI.out hb1 hB1 43)
      clear hB1 hb1 h0 h1 h2 h3
      go_wp2_with (at_builtin; refine wpList_append_ex rfl (.tmp 15) (.tmp 18) 43 rfl _ _ _ rfl rfl HA.out ?_; rintro v' w' ⟨o', HI'⟩)
      go_roundw
      case rel => exact ⟨k + 1, o', by omega, by go_num, HI'⟩
      case measure => simp [intOf]; omega
    · obtain rfl : k = l.length := by omega
      obtain ⟨A2, c2, hu, _⟩ := HI.out.1.form
      rw [List.take_of_length_le (Nat.le_refl _)] at hu
      subst hu
      go_wp2
      go_ret
      have hI := HI.out
      unfold OwnedInv at hI
      rw [List.take_of_length_le (Nat.le_refl _)] at hI
      exact ⟨A2, c2, rfl, hI.1.slice.imp (fun b hb _ => hI.2.from_ hb (by simp)) (fun _ _ => EntR.stays (Stays.weak _ fun b hb => hb.1)), hI.2.zero_below (by simp)⟩

end Go.Proofs.Ytibkmhacpodceaa
