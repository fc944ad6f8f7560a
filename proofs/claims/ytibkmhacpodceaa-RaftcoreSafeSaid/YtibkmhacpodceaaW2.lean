/- Walks: new memory: Clone, Clip, named, own, owned. -/
import Derived.Test.YtibkmhacpodceaaW1
namespace Go.Proofs.Ytibkmhacpodceaa
open Go.RowKit

section
variable {P : Program} {ops : Array Oper} {rest : List Oper} {o : Oper} {a : Act} {Q : Exit → Act → World → Prop} {w : World}
/-- The builtin append at an operation, by what its run comes to. -/
theorem wpList_append_ex (hgd : o.guard = none) (s x : Operand) (t : TypeId)
    (ho : o.op = .call { callee := .builtin .append, args := #[s, x], argTypes := #[t, t] }) (v xv : Value) (Post : Value → World → Prop)
    (hs : a.eval s = v) (hx : a.eval x = xv) (hrun : ∃ v' w', (Builtin.append_ #[t, t] o.type #[v, xv]).run P w = .ok v' w' ∧ Post v' w')
    (h : ∀ v' w', Post v' w' → wpList P ops Q rest (a.put o.dst v') w') : wpList P ops Q (o :: rest) a w := by
  refine wpList_plain hgd fun K hK => ?_
  obtain ⟨v', w', hr, hp⟩ := hrun
  unfold Oper.wp execOp
  simp only [ho, resolve, invoke, builtin, Sem.run_bind, Sem.run_pure, Result.andThen_ok, List.map_toArray, List.map_cons, List.map_nil, hs, hx, hr]
  exact hK _ _ (h v' w' hp)
theorem step_append_ex {E : Prop} {K : Act → World → Prop} (hgd : o.guard = none) (s x : Operand) (t : TypeId)
    (ho : o.op = .call { callee := .builtin .append, args := #[s, x], argTypes := #[t, t] }) (v xv : Value) (Post : Value → World → Prop)
    (hs : a.eval s = v) (hx : a.eval x = xv) (hrun : ∃ v' w', (Builtin.append_ #[t, t] o.type #[v, xv]).run P w = .ok v' w' ∧ Post v' w')
    (h : ∀ v' w', Post v' w' → K (a.put o.dst v') w') : if Region.wanted o (yielded ops a.tmps) = true then Oper.wp P o a w K Q else E := by
  have hw : Region.wanted o (yielded ops a.tmps) = true := by simp [Region.wanted, hgd]
  rw [if_pos hw]
  obtain ⟨v', w', hr, hp⟩ := hrun
  unfold Oper.wp execOp
  simp only [ho, resolve, invoke, builtin, Sem.run_bind, Sem.run_pure, Result.andThen_ok, List.map_toArray, List.map_cons, List.map_nil, hs, hx, hr]
  exact h v' w' hp
end

/-- what a new row is, for a function that only makes memory -/
def zeroOwn : Own := fun _ => 0
theorem wf_zero (w : World) : Wf zeroOwn w := fun _ _ => rfl
theorem Ext.from_ {S : List Nat} {o' : Own} {w w' : World} {b k : Nat} (h : Ext S zeroOwn o' w w') (hb : o' b = k) (hk : k ≠ 0) : w.heap.size ≤ b := by
  rcases Nat.lt_or_ge b w.heap.size with hl | hl
  · have := h.own b hl
    rw [hb] at this
    exact absurd this hk
  · exact hl
theorem Ext.zero_below {S : List Nat} {o' : Own} {w w' : World} (h : Ext S zeroOwn o' w w') (h0 : 0 ∉ S) : Below w.heap.size w w' :=
  ⟨h.os, h.tape, h.output, h.size, fun b hb => h.keep b hb h0⟩

theorem parts_int : ∃ i, Try.prog.info? 3 = some i ∧ i.zero = some (.int .i64 0) ∧ i.size = 1 ∧ i.bytes = 8 := by
  have h : (Try.prog.info? 3).map (fun i => (i.zero, i.size, i.bytes)) = some (some (.int .i64 0), 1, 8) := by kernel_rfl
  cases hi : Try.prog.info? 3 with
  | none => rw [hi] at h; cases h
  | some i => rw [hi] at h; simp at h; exact ⟨i, rfl, h.1, h.2.1, h.2.2⟩
theorem parts_byte : ∃ i, Try.prog.info? 5 = some i ∧ i.zero = some (.int .u8 0) ∧ i.size = 1 ∧ i.bytes = 1 := by
  have h : (Try.prog.info? 5).map (fun i => (i.zero, i.size, i.bytes)) = some (some (.int .u8 0), 1, 1) := by kernel_rfl
  cases hi : Try.prog.info? 5 with
  | none => rw [hi] at h; cases h
  | some i => rw [hi] at h; simp at h; exact ⟨i, rfl, h.1, h.2.1, h.2.2⟩
theorem parts_ent : ∃ i, Try.prog.info? 63 = some i ∧ i.zero = some (.agg #[.int .i64 0, .int .i64 0, .int .i64 0, .slice none 0 0]) ∧ i.size = 4 ∧ i.bytes = 48 := by
  have h : (Try.prog.info? 63).map (fun i => (i.zero, i.size, i.bytes)) = some (some (.agg #[.int .i64 0, .int .i64 0, .int .i64 0, .slice none 0 0]), 4, 48) := by kernel_rfl
  cases hi : Try.prog.info? 63 with
  | none => rw [hi] at h; cases h
  | some i => rw [hi] at h; simp at h; exact ⟨i, rfl, h.1, h.2.1, h.2.2⟩
theorem parts_msg : ∃ i, Try.prog.info? 48 = some i ∧ i.zero = some (.agg #[.int .i64 0, .int .i64 0, .int .i64 0, .int .i64 0, .int .i64 0, .int .i64 0, .int .i64 0, .int .i64 0, .bool false, .slice none 0 0, .slice none 0 0, .slice none 0 0]) ∧ i.size = 12 ∧ i.bytes = 144 := by
  have h : (Try.prog.info? 48).map (fun i => (i.zero, i.size, i.bytes)) = some (some (.agg #[.int .i64 0, .int .i64 0, .int .i64 0, .int .i64 0, .int .i64 0, .int .i64 0, .int .i64 0, .int .i64 0, .bool false, .slice none 0 0, .slice none 0 0, .slice none 0 0]), 12, 144) := by kernel_rfl
  cases hi : Try.prog.info? 48 with
  | none => rw [hi] at h; cases h
  | some i => rw [hi] at h; simp at h; exact ⟨i, rfl, h.1, h.2.1, h.2.2⟩

section
variable {o : Own} {k : Nat} {w : World} {v x : Value} {B : Nat → Prop}
theorem append_ints (ty : TypeId) {al bl : List Int} (hv : RowOf 1 IntR 3 o k w v al) (hx : IntsAt B w x bl) (hl : al.length + bl.length ≤ 100000) :
    ∃ v' w', (Builtin.append_ #[35, 35] ty #[v, x]).run Try.prog w = .ok v' w' ∧ ∃ o', RowOf 1 IntR 3 o' k w' v' (al ++ bl) ∧ Ext [k] o o' w w' ∧ Others 3 w w' := by
  obtain ⟨i, hi, hz, hs, hb⟩ := parts_int
  obtain ⟨v', w', o', h1, h2, h3, h4⟩ := append_row (P := Try.prog) 35 ty i _ 8 Try.underlying35 hi hz hs hb rfl hv hx (fun _ _ h => IntR.ones h) (by omega) (by omega) (R' := IntR) (fun _ _ _ _ _ h => h)
  exact ⟨v', w', h1, o', h2, h3, h4⟩
theorem append_bytes (ty : TypeId) {al bl : List Int} (hv : RowOf 1 ByteR 5 o k w v al) (hx : BytesAt B w x bl) (hl : al.length + bl.length ≤ 4000000) :
    ∃ v' w', (Builtin.append_ #[46, 46] ty #[v, x]).run Try.prog w = .ok v' w' ∧ ∃ o', RowOf 1 ByteR 5 o' k w' v' (al ++ bl) ∧ Ext [k] o o' w w' ∧ Others 5 w w' := by
  obtain ⟨i, hi, hz, hs, hb⟩ := parts_byte
  obtain ⟨v', w', o', h1, h2, h3, h4⟩ := append_row (P := Try.prog) 46 ty i _ 1 Try.underlying46 hi hz hs hb rfl hv hx (fun _ _ h => ByteR.ones h) (by omega) (by omega) (R' := ByteR) (fun _ _ _ _ _ h => h)
  exact ⟨v', w', h1, o', h2, h3, h4⟩
theorem append_ents (ty : TypeId) {al bl : List Ent} (hk : k ≠ 0) (hv : RowOf 4 (EntR (Of o 0) w) 63 o k w v al) (hx : EntsAt B (Of o 0) w x bl) (hl : al.length + bl.length ≤ 100000) :
    ∃ v' w', (Builtin.append_ #[43, 43] ty #[v, x]).run Try.prog w = .ok v' w' ∧ ∃ o', RowOf 4 (EntR (Of o' 0) w') 63 o' k w' v' (al ++ bl) ∧ Ext [k] o o' w w' ∧ Others 63 w w' := by
  obtain ⟨i, hi, hz, hs, hb⟩ := parts_ent
  have key := append_row (P := Try.prog) 43 ty i _ 48 Try.underlying43 hi hz hs hb rfl hv hx (fun _ _ h => EntR.ones h) (by omega) (by omega) (R' := EntR (Of o 0) w) (fun _ _ _ _ _ h => h)
  obtain ⟨v', w', o', h1, h2, h3, h4⟩ := key
  exact ⟨v', w', h1, o', h2.stays ⟨Nat.le_refl _, fun b hb _ => ⟨hb, rfl⟩⟩ (fun _ _ => EntR.stays (h3.stays (by simpa using hk.symm))), h3, h4⟩
theorem append_msgs (ty : TypeId) {al bl : List Msg} (hk : k ≠ 0) (hv : RowOf 12 (MsgR (Of o 0) w) 48 o k w v al) (hx : SliceOf 12 (MsgR (Of o 0) w) B w x bl) (hl : al.length + bl.length ≤ 100000) :
    ∃ v' w', (Builtin.append_ #[39, 39] ty #[v, x]).run Try.prog w = .ok v' w' ∧ ∃ o', RowOf 12 (MsgR (Of o' 0) w') 48 o' k w' v' (al ++ bl) ∧ Ext [k] o o' w w' ∧ Others 48 w w' := by
  obtain ⟨i, hi, hz, hs, hb⟩ := parts_msg
  have key := append_row (P := Try.prog) 39 ty i _ 144 Try.underlying39 hi hz hs hb rfl hv hx (fun _ _ h => MsgR.ones h) (by omega) (by omega) (R' := MsgR (Of o 0) w) (fun _ _ _ _ _ h => h)
  obtain ⟨v', w', o', h1, h2, h3, h4⟩ := key
  exact ⟨v', w', h1, o', h2.stays ⟨Nat.le_refl _, fun b hb _ => ⟨hb, rfl⟩⟩ (fun _ _ => MsgR.stays (h3.stays (by simpa using hk.symm))), h3, h4⟩
end

theorem RowOf.empty_ents {B2 : Nat → Prop} {o : Own} {k : Nat} {w : World} {A : Option Addr} : RowOf 4 (EntR B2 w) 63 o k w (.slice A 0 0) [] := RowOf.empty A
/-- onto a row of the call's own (nobody else has it), the data in blocks of which the row is none -/
theorem append_ents2 {o : Own} {k : Nat} {w : World} {v x : Value} {B B2 : Nat → Prop} (B3 : Own → Nat → Prop) (ty : TypeId) {al bl : List Ent} (hv : RowOf 4 (EntR B2 w) 63 o k w v al) (hx : EntsAt B B2 w x bl) (hl : al.length + bl.length ≤ 100000)
    (hn : ∀ o' w', Ext [k] o o' w w' → Stays B2 (B3 o') w w') :
    ∃ v' w', (Builtin.append_ #[43, 43] ty #[v, x]).run Try.prog w = .ok v' w' ∧ ∃ o', RowOf 4 (EntR (B3 o') w') 63 o' k w' v' (al ++ bl) ∧ Ext [k] o o' w w' ∧ Others 63 w w' := by
  obtain ⟨i, hi, hz, hs, hb⟩ := parts_ent
  have key := append_row (P := Try.prog) 43 ty i _ 48 Try.underlying43 hi hz hs hb rfl hv hx (fun _ _ h => EntR.ones h) (by omega) (by omega) (R' := EntR B2 w) (fun _ _ _ _ _ h => h)
  obtain ⟨v', w', o', h1, h2, h3, h4⟩ := key
  exact ⟨v', w', h1, o', h2.stays ⟨Nat.le_refl _, fun b hb _ => ⟨hb, rfl⟩⟩ (fun _ _ => EntR.stays (hn o' w' h3)), h3, h4⟩

/-- what Clone gives: the same list in new memory (nil of nil) -/
def CloneInts (l : List Int) (w : World) (e : Ending) (w' : World) : Prop := ∃ v', e = .returned v' ∧ IntsAt (From w.heap.size) w' v' l ∧ Below w.heap.size w w'
def CloneBytes (l : List Int) (w : World) (e : Ending) (w' : World) : Prop := ∃ v', e = .returned v' ∧ BytesAt (From w.heap.size) w' v' l ∧ Below w.heap.size w w'

theorem qnil35 (w : World) (a : Option Addr) (n c : Nat) : (binOp .eql 35 (.slice a n c) (.slice none 0 0)).run Try.prog w = .ok (.bool a.isNone) w := Lib.run_eql_slice_nil (P := Try.prog) w 35 3 a n c 0 0 Try.underlying35

set_option maxHeartbeats 400000 in
theorem clone27 (v : Value) (l : List Int) (B : Nat → Prop) (w : World) (h : IntsAt B w v l) (hl : l.length ≤ 30000) :
    Calls Try.prog 27 #[v] w (CloneInts l w) := by
  obtain ⟨A, c, rfl, hc⟩ := h.form
  have q := qnil35
  rcases A with _ | ad
  · have hl0 : l = [] := by
      rcases Nat.eq_zero_or_pos l.length with h0 | h0
      · exact List.eq_nil_of_length_eq_zero h0
      · obtain ⟨g, off, hA, _⟩ := IntsAt.at_ h 0 h0
        cases hA
    subst hl0
    go_enter Try.func27, Try.ntmps27
    go_wp2
    go_ret
    exact ⟨_, rfl, SliceOf.nil_, Below.refl _ _⟩
  · have HX : Hid (IntsAt B (w.alloc (.cells #[] 3)) (.slice (some ad) l.length c) l) := IntsAt.stays h (Stays.of_below ((Below.refl _ _).alloc (Nat.le_refl _) _))
    go_enter Try.func27, Try.ntmps27
    go_wp2_with (at_builtin; refine wpList_append_ex rfl (.tmp 5) (.tmp 6) 35 rfl _ _ _ rfl rfl (append_ints (o := zeroOwn) (k := 1) _ (RowOf.empty _) HX.out (by simp; omega)) ?_; rintro v' w' ⟨o', hrow, hext, _⟩)
    go_ret
    have he : Ext [1] zeroOwn o' w w' := (((Ext.refl [1] zeroOwn w).alloc _).trans hext)
    exact ⟨v', rfl, hrow.slice.imp (fun b hb _ => he.from_ hb (by simp)) (fun _ _ h => h), he.zero_below (by simp)⟩

theorem qnil46 (w : World) (a : Option Addr) (n c : Nat) : (binOp .eql 46 (.slice a n c) (.slice none 0 0)).run Try.prog w = .ok (.bool a.isNone) w := Lib.run_eql_slice_nil (P := Try.prog) w 46 5 a n c 0 0 Try.underlying46
theorem qnil43 (w : World) (a : Option Addr) (n c : Nat) : (binOp .eql 43 (.slice a n c) (.slice none 0 0)).run Try.prog w = .ok (.bool a.isNone) w := Lib.run_eql_slice_nil (P := Try.prog) w 43 63 a n c 0 0 Try.underlying43

set_option maxHeartbeats 400000 in
theorem clone32 (v : Value) (l : List Int) (B : Nat → Prop) (w : World) (h : BytesAt B w v l) (hl : l.length ≤ 30000) :
    Calls Try.prog 32 #[v] w (CloneBytes l w) := by
  obtain ⟨A, c, rfl, hc⟩ := h.form
  have q := qnil46
  rcases A with _ | ad
  · have hl0 : l = [] := by
      rcases Nat.eq_zero_or_pos l.length with h0 | h0
      · exact List.eq_nil_of_length_eq_zero h0
      · obtain ⟨g, off, hA, _⟩ := BytesAt.at_ h 0 h0
        cases hA
    subst hl0
    go_enter Try.func32, Try.ntmps32
    go_wp2
    go_ret
    exact ⟨_, rfl, SliceOf.nil_, Below.refl _ _⟩
  · have HX : Hid (BytesAt B (w.alloc (.cells #[] 5)) (.slice (some ad) l.length c) l) := BytesAt.stays h (Stays.of_below ((Below.refl _ _).alloc (Nat.le_refl _) _))
    go_enter Try.func32, Try.ntmps32
    go_wp2_with (at_builtin; refine wpList_append_ex rfl (.tmp 5) (.tmp 6) 46 rfl _ _ _ rfl rfl (append_bytes (o := zeroOwn) (k := 1) _ (RowOf.empty _) HX.out (by simp; omega)) ?_; rintro v' w' ⟨o', hrow, hext, _⟩)
    go_ret
    have he : Ext [1] zeroOwn o' w w' := (((Ext.refl [1] zeroOwn w).alloc _).trans hext)
    exact ⟨v', rfl, hrow.slice.imp (fun b hb _ => he.from_ hb (by simp)) (fun _ _ h => h), he.zero_below (by simp)⟩

def newOwn (n : Nat) : Own := fun b => if n ≤ b then 1 else 0
theorem RowOf.newly {α : Type} {sz : Nat} {R : α → List Value → Prop} {E : TypeId} {S : List Nat} {o' : Own} {w w' : World} {v : Value} {al : List α}
    (h : RowOf sz R E o' 1 w' v al) (he : Ext S zeroOwn o' w w') : RowOf sz R E (newOwn w.heap.size) 1 w' v al :=
  h.stays ⟨Nat.le_refl _, fun b hb _ => ⟨by have := he.from_ hb (by simp); simp [Of, newOwn, this], rfl⟩⟩ fun _ _ h => h
theorem RowOf.owned {α : Type} {sz : Nat} {R : α → List Value → Prop} {E : TypeId} {o : Own} {n k : Nat} {w : World} {v : Value} {al : List α}
    (h : RowOf sz R E (newOwn n) 1 w v al) (ho : ∀ b, n ≤ b → b < w.heap.size → o b = k) : RowOf sz R E o k w v al :=
  h.stays ⟨Nat.le_refl _, fun b hb hl => ⟨ho b (by simp only [Of, newOwn] at hb; split at hb; assumption; cases hb) hl, rfl⟩⟩ fun _ _ h => h

/-- the same entries in a new array, their data where it was -/
def CloneEnts (B2 : Nat → Prop) (l : List Ent) (w : World) (e : Ending) (w' : World) : Prop := ∃ v', e = .returned v' ∧ RowOf 4 (EntR B2 w') 63 (newOwn w.heap.size) 1 w' v' l ∧ Below w.heap.size w w'

set_option maxHeartbeats 400000 in
theorem clone78 (v : Value) (l : List Ent) (B B2 : Nat → Prop) (w : World) (h : EntsAt B B2 w v l) (hl : l.length ≤ 30000) :
    Calls Try.prog 78 #[v] w (CloneEnts B2 l w) := by
  obtain ⟨A, c, rfl, hc⟩ := h.form
  have q := qnil43
  rcases A with _ | ad
  · have hl0 : l = [] := by
      rcases Nat.eq_zero_or_pos l.length with h0 | h0
      · exact List.eq_nil_of_length_eq_zero h0
      · obtain ⟨g, off, _, _, _, hA, _⟩ := EntsAt.at_ h 0 h0
        cases hA
    subst hl0
    go_enter Try.func78, Try.ntmps78
    go_wp2
    go_ret
    exact ⟨_, rfl, RowOf.nil_, Below.refl _ _⟩
  · have hst : Stays B B w (w.alloc (.cells #[] 63)) := Stays.of_below ((Below.refl _ _).alloc (Nat.le_refl _) _)
    have hst2 : Stays B2 B2 w (w.alloc (.cells #[] 63)) := Stays.of_below ((Below.refl _ _).alloc (Nat.le_refl _) _)
    have HX2 : Hid (EntsAt B B2 (w.alloc (.cells #[] 63)) (.slice (some ad) l.length c) l) := EntsAt.stays h hst hst2
    clear hst hst2
    go_enter Try.func78, Try.ntmps78
    go_wp2_with (at_builtin; refine wpList_append_ex rfl (.tmp 5) (.tmp 6) 43 rfl _ _ _ rfl rfl (append_ents2 (o := zeroOwn) (k := 1) (fun _ => B2) _ RowOf.empty_ents HX2.out (by simp; omega) (fun _ _ he => ⟨he.size, fun b hb hl => ⟨hb, he.keep b hl (by simp [zeroOwn])⟩⟩)) ?_; rintro v' w' ⟨o', hrow, hext, _⟩)
    go_ret
    have he : Ext [1] zeroOwn o' w w' := (((Ext.refl [1] zeroOwn w).alloc _).trans hext)
    exact ⟨v', rfl, hrow.newly he, he.zero_below (by simp)⟩

end Go.Proofs.Ytibkmhacpodceaa
