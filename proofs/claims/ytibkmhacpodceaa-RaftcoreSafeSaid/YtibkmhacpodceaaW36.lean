/- Walks: simnet's checks of numbers, entries. -/
import Derived.Test.YtibkmhacpodceaaW32
namespace Go.Proofs.Ytibkmhacpodceaa
open Go.RowKit

set_option maxHeartbeats 1000000 in
theorem members83 (v : Value) (l : List Int) (B : Nat → Prop) (w : World) (h : IntsAt B w v l) (hl : l.length ≤ 30000) :
    Calls Try.prog 83 #[v] w fun e w' => e = .returned (.bool (membersC l)) ∧ w' = w := by
  obtain ⟨A, c, rfl, hc⟩ := h.form
  go_enter Try.func83, Try.ntmps83
  go_wp2
  go_loop [7] (fun i => ∃ k : Nat, k ≤ l.length ∧ i = .int .i64 k ∧ Hid (RiseInv l k)) (fun i => l.length - (intOf i).toNat)
  case atStart => exact ⟨0, Nat.zero_le _, rfl, 0, rfl, fun _ => rfl, by omega⟩
  case round =>
    obtain ⟨k, hk, rfl, HI⟩ := hrel
    by_cases hlt : k < l.length
    · obtain ⟨x, hx⟩ : ∃ x, l[k]? = some x := ⟨_, List.getElem?_eq_getElem hlt⟩
      obtain ⟨g, off, rfl, hg, hcell⟩ := IntsAt.at? h hx
      have HS : Hid (1 ≤ x → x ≤ 5 → (0 < k → ∀ n0, l[k - 1]? = some n0 → n0 < x) → RiseInv l (k + 1)) := riseInv_step HI.out hx
      have HB : Hid (¬ (1 ≤ x ∧ x ≤ 5) ∨ (0 < k ∧ ∃ n0, l[k - 1]? = some n0 ∧ x ≤ n0) → membersC l = false) := riseInv_bad HI.out hx
      clear hx
      by_cases hn : 1 ≤ x ∧ x ≤ 5
      · have HN := Lib.hid (show okNode x = true by unfold okNode; simp [hn])
        rcases Nat.eq_zero_or_pos k with hz | hz
        · subst hz
          rw [Nat.add_zero] at hcell
          go_wp2_with (go_at_call 81; refine (node81 _ _).mono ?_; rintro e w' ⟨rfl, rfl⟩; rw [HN.out])
          go_round
          case rel => exact ⟨1, by omega, by go_num, HS.out hn.1 hn.2 (by omega)⟩
          case measure => simp [intOf]; omega
        · obtain ⟨k, rfl⟩ : ∃ j, k = j + 1 := ⟨k - 1, by omega⟩
          obtain ⟨y, hy⟩ : ∃ y, l[k]? = some y := ⟨_, List.getElem?_eq_getElem (by omega)⟩
          obtain ⟨g', off', he, hg', hcell'⟩ := IntsAt.at? h hy
          simp only [Option.some.injEq, Addr.mk.injEq, and_true] at he
          obtain ⟨rfl, rfl⟩ := he
          have HY := Lib.hid hy
          clear hy
          by_cases hxy : x ≤ y
          · go_wp2_with (go_at_call 81; refine (node81 _ _).mono ?_; rintro e w' ⟨rfl, rfl⟩; rw [HN.out])
            go_ret
            exact ⟨ret_bool (HB.out (.inr ⟨hz, y, by simpa using HY.out, hxy⟩)).symm, rfl⟩
          · go_wp2_with (go_at_call 81; refine (node81 _ _).mono ?_; rintro e w' ⟨rfl, rfl⟩; rw [HN.out])
            go_round
            case rel => exact ⟨k + 1 + 1, by omega, by go_num, HS.out hn.1 hn.2 (fun _ n0 h0 => by rw [show k + 1 - 1 = k from rfl, HY.out] at h0; injection h0 with h0; omega)⟩
            case measure => simp [intOf]; omega
      · have HN := Lib.hid (show okNode x = false by unfold okNode; simp; omega)
        have HF := Lib.hid (HB.out (.inl hn))
        clear hn
        go_wp2_with (go_at_call 81; refine (node81 _ _).mono ?_; rintro e w' ⟨rfl, rfl⟩; rw [HN.out])
        go_ret
        exact ⟨ret_bool HF.out.symm, rfl⟩
    · obtain rfl : k = l.length := by omega
      have HE : Hid (membersC l = decide (0 < l.length)) := by
        obtain ⟨n0, hr, _⟩ := HI.out
        unfold Hid membersC; rw [risingTo_end hr, Bool.and_true]
      go_wp2
      go_ret
      exact ⟨ret_bool (by rw [HE.out]), rfl⟩


/-- the bytes as numbers, so far -/
def IntsMade (l : List Int) (k : Nat) (w : World) (v : Value) (wr : World) : Prop := ∃ o, RowOf 1 IntR 3 o 1 wr v (l.take k) ∧ Ext [1] zeroOwn o w wr
theorem ints_step {l : List Int} {k : Nat} {w wr : World} {v : Value} {x : Int} (hx : l[k]? = some x) (hl : l.length ≤ 30000) (HI : IntsMade l k w v wr) (ty : TypeId) :
    ∃ v' w', (Builtin.append_ #[35, 35] ty #[v, .slice (some ⟨wr.heap.size, 0, none⟩) 1 1]).run Try.prog (wr.alloc (.cells #[.int .i64 x] 3)) = .ok v' w' ∧ Hid (IntsMade l (k + 1) w v' w') := by
  obtain ⟨o, hr, he⟩ := HI
  obtain ⟨hk, hxe⟩ := List.getElem?_eq_some_iff.1 hx
  have hr1 := hr.stays (R' := IntR) (((Stays.refl (Of o 1) wr).alloc (.cells #[.int .i64 x] 3))) (fun _ _ h => h)
  have hX : IntsAt Any (wr.alloc (.cells #[.int .i64 x] 3)) (.slice (some ⟨wr.heap.size, 0, none⟩) 1 1) [x] := SliceOf.one (Blk.new wr 3 [.int .i64 x]) trivial rfl rfl
  obtain ⟨v', w', g1, o', g2, g3, _⟩ := append_ints (k := 1) ty hr1 hX (by simp only [List.length_take, List.length_singleton]; omega)
  refine ⟨v', w', g1, o', ?_, ((he.alloc _).trans g3)⟩
  rw [List.take_succ_eq_append_getElem hk, hxe]
  exact g2

def NumbersIs (l : List Int) (w : World) (e : Ending) (w' : World) : Prop := ∃ v, e = .returned v ∧ IntsAt Any w' v l ∧ Below w.heap.size w w'
set_option maxHeartbeats 2000000 in
theorem numbers92 (A : Option Addr) (n c : Nat) (l : List Int) (B : Nat → Prop) (w : World) (h : BytesAt B w (.slice A n c) l) (hl : l.length ≤ 30000) :
    Calls Try.prog 92 #[.slice A n c] w (NumbersIs l w) := by
  have HD := Lib.hid h
  have hn := h.len.1
  have HN := Lib.hid hn
  have hn3 : n ≤ 30000 := by omega
  have HST : Hid (IntsMade l 0 w (.slice none 0 0) w) := ⟨zeroOwn, RowOf.nil_, Ext.refl _ _ _⟩
  clear h hn
  go_enter Try.func92, Try.ntmps92
  go_wp2
  go_loopw [3, 8] (fun d i wr => ∃ k : Nat, k ≤ n ∧ i = .int .i64 k ∧ Hid (IntsMade l k w d wr)) (fun _ i _ => n - (intOf i).toNat)
  case atStart => exact ⟨0, Nat.zero_le _, rfl, HST⟩
  case round =>
    obtain ⟨k, hk', rfl, HI⟩ := hrel
    have HBR : Hid (Below w.heap.size w wr) := by
      obtain ⟨o9, _, he⟩ := HI.out
      exact he.zero_below (by simp)
    by_cases hlt3 : k < n
    · obtain ⟨x, hx⟩ : ∃ x, l[k]? = some x := ⟨_, List.getElem?_eq_getElem (by have := HN.out; omega)⟩
      obtain ⟨hk2, hxe⟩ := List.getElem?_eq_some_iff.1 hx
      obtain ⟨g, off, rfl, hg, k0, hx0, hx1⟩ := BytesAt.at_ (BytesAt.stays HD.out (Stays.of_below HBR.out)) k hk2
      rw [hxe] at k0 hx0 hx1
      have HLT := Lib.hid hlt3
      have HA := Lib.hid (ints_step hx hl HI.out 35)
      clear hx hxe hk2
      go_wp2_with (at_builtin; refine wpList_append_ex rfl (.tmp 12) (.tmp 15) 35 rfl _ _ _ rfl rfl HA.out ?_; rintro v' w' HI')
      go_roundw
      case rel => exact ⟨k + 1, by have := HLT.out; omega, by go_num, HI'⟩
      case measure => have := HLT.out; simp [intOf]; omega
    · obtain rfl : k = n := by omega
      obtain ⟨o9, hrow, hext⟩ := HI.out
      rw [List.take_of_length_le (by have := HN.out; omega)] at hrow
      have HR := Lib.hid (And.intro hrow hext)
      clear hrow hext
      go_wp2
      go_ret
      exact ⟨_, rfl, HR.out.1.slice.imp (fun _ _ _ => trivial) (fun _ _ h => h), HBR.out⟩

def SomeBool (w : World) (e : Ending) (w' : World) : Prop := (∃ b, e = .returned (.bool b)) ∧ Below w.heap.size w w'

set_option maxHeartbeats 4000000 in
theorem entry90 (x : Ent) (A : Option Addr) (n c : Nat) (B : Nat → Prop) (w : World) (h : BytesAt B w (.slice A n c) x.data) (hl : x.data.length ≤ 30000) :
    Calls Try.prog 90 #[.agg #[.int .i64 x.index, .int .i64 x.term, .int .i64 x.kind, .slice A n c]] w (SomeBool w) := by
  have HD := Lib.hid h
  have hn := h.len.1
  have HN := Lib.hid hn
  clear h hn
  have HBA : Hid (∀ y, Below w.heap.size w (w.alloc y)) := fun y => (Below.refl _ _).alloc (Nat.le_refl _) _
  go_enter Try.func90, Try.ntmps90
  cases hc1 : okCount x.index
  · have HC1 := Lib.hid hc1
    clear hc1
    go_wp2_with fail
    refine (count80 x.index _).mono ?_
    rintro e w' ⟨he, hx⟩
    rw [HC1.out] at he
    subst he
    obtain rfl := hx.symm
    clear hx
    go_wp2
    go_ret
    exact ⟨⟨_, rfl⟩, HBA.out _⟩
  · have HC1 := Lib.hid hc1
    clear hc1
    go_wp2_with fail
    refine (count80 x.index _).mono ?_
    rintro e w' ⟨he, hx⟩
    rw [HC1.out] at he
    subst he
    obtain rfl := hx.symm
    clear hx
    cases hc2 : okCount x.term
    · have HC2 := Lib.hid hc2
      clear hc2
      go_wp2_with fail
      refine (count80 x.term _).mono ?_
      rintro e w' ⟨he, hx⟩
      rw [HC2.out] at he
      subst he
      obtain rfl := hx.symm
      clear hx
      go_wp2
      go_ret
      exact ⟨⟨_, rfl⟩, HBA.out _⟩
    · have HC2 := Lib.hid hc2
      clear hc2
      go_wp2_with fail
      refine (count80 x.term _).mono ?_
      rintro e w' ⟨he, hx⟩
      rw [HC2.out] at he
      subst he
      obtain rfl := hx.symm
      clear hx
      by_cases h3 : x.kind = 3
      · by_cases h5 : n ≤ 5
        · have h1' : (x.kind == 1) = false := by simp [h3]
          have h2' : (x.kind == 2) = false := by simp [h3]
          have h3' : (x.kind == 3) = true := by simp [h3]
          clear h3
          by_cases ht : x.term < 1
          · go_wp2
            go_ret
            exact ⟨⟨_, rfl⟩, HBA.out _⟩
          · go_wp2_with fail
            refine (numbers92 A n c x.data B _ (BytesAt.stays HD.out (Stays.of_below (HBA.out _))) hl).mono ?_
            rintro e w2 ⟨v2, rfl, hI2, hb2⟩
            have HI2 := Lib.hid hI2
            have HB2 := Lib.hid hb2
            clear hI2 hb2
            go_wp2_with fail
            refine (members83 v2 x.data Any _ HI2.out hl).mono ?_
            rintro e w3 ⟨rfl, hx⟩
            obtain rfl := hx.symm
            clear hx
            go_wp2
            go_ret
            exact ⟨⟨_, rfl⟩, (HBA.out _).trans (HB2.out.mono (by simp))⟩
        · have h1' : (x.kind == 1) = false := by simp [h3]
          have h2' : (x.kind == 2) = false := by simp [h3]
          have h3' : (x.kind == 3) = true := by simp [h3]
          clear h3
          go_wp2
          all_goals
            go_ret
            exact ⟨⟨_, rfl⟩, HBA.out _⟩
      · have h3' : (x.kind == 3) = false := by simp [h3]
        clear h3
        go_wp2
        all_goals
          go_ret
          exact ⟨⟨_, rfl⟩, HBA.out _⟩
end Go.Proofs.Ytibkmhacpodceaa

/- Walks: simnet's entries. -/
namespace Go.Proofs.Ytibkmhacpodceaa
open Go.RowKit

set_option maxHeartbeats 8000000 in
theorem entries82 (m : Msg) (A n c A2 n2 c2 A3 n3 c3) (B B2 : Nat → Prop) (w : World) (hME : MsgEnts m.entries) (hi0 : 0 ≤ m.index) (hi1 : m.index ≤ 60000) (hE : EntsAt B B2 w (.slice A n c) m.entries) :
    Calls Try.prog 82 #[.agg #[.int .i64 m.kind, .int .i64 m.group, .int .i64 m.from_, .int .i64 m.to_, .int .i64 m.term, .int .i64 m.index, .int .i64 m.logTerm, .int .i64 m.commit, .bool m.ok, .slice A n c, .slice A2 n2 c2, .slice A3 n3 c3]] w (SomeBool w) := by
  have HE := Lib.hid hE
  have HME := Lib.hid hME
  have hn := hE.len.1
  have HN := Lib.hid hn
  have hn1 : n ≤ 1000 := by have := hME.len; omega
  have HBA : Hid (∀ y, Below w.heap.size w (w.alloc y)) := fun y => (Below.refl _ _).alloc (Nat.le_refl _) _
  clear hE hME hn
  go_enter Try.func82, Try.ntmps82
  by_cases h64 : 64 < n
  · go_wp2
    go_ret
    exact ⟨⟨_, rfl⟩, HBA.out _⟩
  · go_wp2
    refine (fun (HH : ∀ V : World, Hid (Below w.heap.size w V ∧ Blk V w.heap.size 48 (msgCells m (.slice A n c) (.slice A2 n2 c2) (.slice A3 n3 c3))) → Code.wp Try.prog _ _ _ V) => HH _ ⟨HBA.out _, Blk.new w 48 _⟩) ?_
    intro V HV
    go_loopw [12] (fun i wr => ∃ k : Nat, k ≤ n ∧ i = .int .i64 k ∧ Hid (Below w.heap.size w wr ∧ Blk wr w.heap.size 48 (msgCells m (.slice A n c) (.slice A2 n2 c2) (.slice A3 n3 c3)))) (fun i _ => n - (intOf i).toNat)
    case atStart => exact ⟨0, Nat.zero_le _, rfl, HV⟩
    case round =>
      obtain ⟨k, hk', rfl, HK⟩ := hrel
      have km := HK.out.2.cells
      unfold msgCells at km
      have hml := HK.out.2.lt
      by_cases hlt : k < n
      · obtain ⟨x, hx⟩ : ∃ x, m.entries[k]? = some x := ⟨_, List.getElem?_eq_getElem (by have := HN.out; omega)⟩
        obtain ⟨g, off, A9, n9, c9, rfl, hg, k0, k1, k2, k3, hD⟩ := EntsAt.at? (EntsAt.stays HE.out (Stays.of_below HK.out.1) (Stays.of_below HK.out.1)) hx
        have hxo := HME.out.ent x (List.mem_of_getElem? hx)
        have hdl : x.data.length ≤ 30000 := by have := hxo.d; omega
        have HLT := Lib.hid hlt
        have HD := Lib.hid hD
        clear hx hxo hD
        go_wp2_with fail
        refine (entry90 x A9 n9 c9 B2 _ (BytesAt.stays HD.out (((Stays.refl B2 wr).alloc _))) hdl).mono ?_
        rintro e w2 ⟨⟨eb, rfl⟩, hb2⟩
        have hne : w.heap.size ≠ wr.heap.size := Nat.ne_of_lt hml
        have HB2 : Hid (Below w.heap.size w w2 ∧ Blk w2 w.heap.size 48 (msgCells m (.slice (some ⟨g, off, none⟩) n c) (.slice A2 n2 c2) (.slice A3 n3 c3)) ∧ Blk w2 wr.heap.size 63 [.int .i64 x.index, .int .i64 x.term, .int .i64 x.kind, .slice A9 n9 c9]) := by
          have hs := HK.out.1.size
          refine ⟨((HK.out.1).alloc hs _).trans (hb2.mono (by simp; omega)), (HK.out.2.alloc _).same (hb2.block _ (by simp; omega)), (Blk.new wr 63 _).same (hb2.block _ (by simp))⟩
        have km2 := HB2.out.2.1.cells
        unfold msgCells at km2
        have ke2 := HB2.out.2.2.cells
        have hl1 := HB2.out.2.1.lt
        have hl2 := HB2.out.2.2.lt
        clear hb2 km k0 k1 k2 k3
        cases eb
        · go_wp2
          go_ret
          exact ⟨⟨_, rfl⟩, HB2.out.1⟩
        · by_cases hix : x.index = m.index + 1 + k
          · have hix' : (x.index != m.index + 1 + (k : Int)) = false := by simpa using hix
            clear hix
            by_cases htm : m.term < x.term
            · go_wp2
              go_ret
              exact ⟨⟨_, rfl⟩, HB2.out.1⟩
            · go_wp2
              go_roundw
              case rel => exact ⟨k + 1, by have := HLT.out; omega, by go_num, HB2.out.1, HB2.out.2.1⟩
              case measure => have := HLT.out; simp [intOf]; omega
          · have hix' : (x.index != m.index + 1 + (k : Int)) = true := by simpa using hix
            clear hix
            go_wp2
            go_ret
            exact ⟨⟨_, rfl⟩, HB2.out.1⟩
      · go_wp2
        go_ret
        exact ⟨⟨_, rfl⟩, HK.out.1⟩
end Go.Proofs.Ytibkmhacpodceaa

/- Walks: simnet's right. -/
namespace Go.Proofs.Ytibkmhacpodceaa
open Go.RowKit

theorem part3 (cs : Array Value) (k : Nat) (v : Value) (w : World) (h : cs[k]? = some v) : (part 3 cs k).run Try.prog w = .ok v w := by
  have hu : Try.prog.underlying 3 = some (.int .i64) := by kernel_rfl
  unfold part isAgg
  simp [run_underlying hu, h]
theorem idx117 (a b c d : Int) (w : World) :
    (Instr.index 117 (.agg #[.int .i64 a, .int .i64 b, .int .i64 c, .int .i64 d]) (.int .i64 0)).run Try.prog w = .ok (.int .i64 a) w ∧
    (Instr.index 117 (.agg #[.int .i64 a, .int .i64 b, .int .i64 c, .int .i64 d]) (.int .i64 1)).run Try.prog w = .ok (.int .i64 b) w ∧
    (Instr.index 117 (.agg #[.int .i64 a, .int .i64 b, .int .i64 c, .int .i64 d]) (.int .i64 2)).run Try.prog w = .ok (.int .i64 c) w ∧
    (Instr.index 117 (.agg #[.int .i64 a, .int .i64 b, .int .i64 c, .int .i64 d]) (.int .i64 3)).run Try.prog w = .ok (.int .i64 d) w := by
  obtain ⟨i, hi, hz, hs, hb⟩ := parts_int
  refine ⟨?_, ?_, ?_, ?_⟩ <;>
  simp [Instr.index, run_underlying Try.underlying117, sizeOf, typeInfo, hi, hs, asIntOf] <;>
  exact part3 _ _ _ _ rfl

set_option maxRecDepth 100000 in
set_option maxHeartbeats 8000000 in
theorem right60 (m : Msg) (A n c A2 n2 c2 A3 n3 c3) (B B2 B3 B4 : Nat → Prop) (w : World) (hME : MsgEnts m.entries) (hi0 : 0 ≤ m.index) (hi1 : m.index ≤ 60000) (hE : EntsAt B B2 w (.slice A n c) m.entries) (hI : IntsAt B3 w (.slice A2 n2 c2) m.members) (hD : BytesAt B4 w (.slice A3 n3 c3) m.data) (hml5 : m.members.length ≤ 30000) (hdl : m.data.length ≤ 30000) :
    Calls Try.prog 60 #[.agg #[.int .i64 m.kind, .int .i64 m.group, .int .i64 m.from_, .int .i64 m.to_, .int .i64 m.term, .int .i64 m.index, .int .i64 m.logTerm, .int .i64 m.commit, .bool m.ok, .slice A n c, .slice A2 n2 c2, .slice A3 n3 c3]] w (SomeBool w) := by
  have HE := Lib.hid hE
  have HI := Lib.hid hI
  have HD := Lib.hid hD
  have hn := hE.len.1
  have hn2 := hI.len.1
  have hn3 := hD.len.1
  have hnb : n ≤ 1000 := by have := hME.len; omega
  have hnb2 : n2 ≤ 30000 := by omega
  have hnb3 : n3 ≤ 30000 := by omega
  have HME := Lib.hid hME
  have HML5 := Lib.hid hml5
  have HBA : Hid (∀ y, Below w.heap.size w (w.alloc y)) := fun y => (Below.refl _ _).alloc (Nat.le_refl _) _
  clear hE hI hD hME hn hn2 hn3
  go_enter Try.func60, Try.ntmps60
  go_wp2
  refine (fun (HH : ∀ V : World, Hid (Below w.heap.size w V ∧ Blk V w.heap.size 48 (msgCells m (.slice A n c) (.slice A2 n2 c2) (.slice A3 n3 c3))) → Code.wp Try.prog _ _ _ V) => HH _ ⟨HBA.out _, Blk.new w 48 _⟩) ?_
  intro V HV
  have km := HV.out.2.cells
  unfold msgCells at km
  have hml := HV.out.2.lt
  have hbelow := HV.out.1
  obtain ⟨j0, j1, j2, j3⟩ := idx117 m.index m.logTerm m.commit m.term V
  go_loop [16] (fun i => ∃ k : Int, (k = 0 ∨ k = 1 ∨ k = 2 ∨ k = 3 ∨ k = 4) ∧ i = .int .i64 k) (fun i => 4 - (intOf i).toNat)
  case atStart => exact ⟨0, .inl rfl, rfl⟩
  case round =>
    obtain ⟨k, hcases, rfl⟩ := hrel
    rcases hcases with rfl | rfl | rfl | rfl | rfl
    · go_wp2_with fail
      refine (count80 m.index _).mono ?_
      rintro e w' ⟨rfl, hx⟩
      obtain rfl := hx.symm
      clear hx
      generalize okCount m.index = q
      cases q
      · go_wp2
        go_ret
        exact ⟨⟨_, rfl⟩, hbelow⟩
      · go_wp2
        go_round
        case rel => exact ⟨1, by omega, rfl⟩
        case measure => simp [intOf]
    · go_wp2_with fail
      refine (count80 m.logTerm _).mono ?_
      rintro e w' ⟨rfl, hx⟩
      obtain rfl := hx.symm
      clear hx
      generalize okCount m.logTerm = q
      cases q
      · go_wp2
        go_ret
        exact ⟨⟨_, rfl⟩, hbelow⟩
      · go_wp2
        go_round
        case rel => exact ⟨2, by omega, rfl⟩
        case measure => simp [intOf]
    · go_wp2_with fail
      refine (count80 m.commit _).mono ?_
      rintro e w' ⟨rfl, hx⟩
      obtain rfl := hx.symm
      clear hx
      generalize okCount m.commit = q
      cases q
      · go_wp2
        go_ret
        exact ⟨⟨_, rfl⟩, hbelow⟩
      · go_wp2
        go_round
        case rel => exact ⟨3, by omega, rfl⟩
        case measure => simp [intOf]
    · go_wp2_with fail
      refine (count80 m.term _).mono ?_
      rintro e w' ⟨rfl, hx⟩
      obtain rfl := hx.symm
      clear hx
      generalize okCount m.term = q
      cases q
      · go_wp2
        go_ret
        exact ⟨⟨_, rfl⟩, hbelow⟩
      · go_wp2
        go_round
        case rel => exact ⟨4, by omega, rfl⟩
        case measure => simp [intOf]
    · go_wp2_with fail
      refine (node81 m.from_ _).mono ?_
      rintro e w' ⟨rfl, hx⟩
      obtain rfl := hx.symm
      clear hx
      generalize okNode m.from_ = q
      cases q
      · go_wp2
        go_ret
        exact ⟨⟨_, rfl⟩, hbelow⟩
      · go_wp2_with fail
        refine (node81 m.to_ _).mono ?_
        rintro e w' ⟨rfl, hx⟩
        obtain rfl := hx.symm
        clear hx
        generalize okNode m.to_ = q
        cases q
        · go_wp2
          go_ret
          exact ⟨⟨_, rfl⟩, hbelow⟩
        · by_cases ht1 : m.term < 1
          · go_wp2
            go_ret
            exact ⟨⟨_, rfl⟩, hbelow⟩
          · by_cases hg1 : m.group < 1
            · go_wp2
              go_ret
              exact ⟨⟨_, rfl⟩, hbelow⟩
            · by_cases hg2 : 255 < m.group
              · go_wp2
                go_ret
                exact ⟨⟨_, rfl⟩, hbelow⟩
              · go_upto_region 9 with (fail)
                clear j0 j1 j2 j3
                go_cut [5] (fun s5 wx => (∃ b, s5 = .bool b) ∧ wx = V)
                case first =>
                  cases hq1 : (m.index == 0) <;> cases hq2 : (m.logTerm == 0)
                  all_goals
                    go_wp2
                    go_meet
                    exact ⟨⟨_, rfl⟩, rfl⟩
                case rest =>
                  obtain ⟨⟨pl, rfl⟩, rfl⟩ := hcut
                  go_upto_region 10 with (fail)
                  go_cut [6] (fun s6 wx => (∃ b, s6 = .bool b) ∧ wx = wc)
                  case first =>
                    cases hq1 : ((n : Int) == 0) <;> cases hq2 : ((n2 : Int) == 0) <;> cases hq3 : ((n3 : Int) == 0) <;> cases hq4 : (m.commit == 0)
                    all_goals
                      go_wp2
                      go_meet
                      exact ⟨⟨_, rfl⟩, rfl⟩
                  case rest =>
                    obtain ⟨⟨ba, rfl⟩, rfl⟩ := hcut
                    clear hml5 hdl
                    by_cases k1 : m.kind = 1
                    · have k1' : (m.kind == 1) = true := by simpa using k1
                      clear k1
                      cases ba
                      all_goals go_wp2
                      all_goals
                        go_ret
                        exact ⟨⟨_, rfl⟩, hbelow⟩
                    · have k1' : (m.kind == 1) = false := by simpa using k1
                      clear k1
                      by_cases k2 : m.kind = 2
                      · have k2' : (m.kind == 2) = true := by simpa using k2
                        clear k2
                        cases ba <;> cases pl
                        all_goals go_wp2
                        all_goals
                          go_ret
                          exact ⟨⟨_, rfl⟩, hbelow⟩
                      · have k2' : (m.kind == 2) = false := by simpa using k2
                        clear k2
                        by_cases k3 : m.kind = 3
                        · have k3' : (m.kind == 3) = true := by simpa using k3
                          clear k3
                          cases hok : m.ok
                          · rw [hok] at km
                            clear hok
                            cases hq2 : ((n2 : Int) == 0)
                            · go_wp2
                              go_ret
                              exact ⟨⟨_, rfl⟩, hbelow⟩
                            · cases hq3 : ((n3 : Int) == 0)
                              · go_wp2
                                go_ret
                                exact ⟨⟨_, rfl⟩, hbelow⟩
                              · by_cases hle : m.logTerm ≤ m.term
                                · go_wp2_with fail
                                  refine (entries82 { m with ok := false } A n c A2 n2 c2 A3 n3 c3 B B2 _ HME.out hi0 hi1 (EntsAt.stays HE.out (Stays.of_below hbelow) (Stays.of_below hbelow))).mono ?_
                                  rintro e w9 ⟨⟨eb, rfl⟩, hb9⟩
                                  have HB9 := Lib.hid hb9
                                  clear hb9
                                  go_wp2
                                  go_ret
                                  exact ⟨⟨_, rfl⟩, hbelow.trans (HB9.out.mono hbelow.size)⟩
                                · go_wp2
                                  go_ret
                                  exact ⟨⟨_, rfl⟩, hbelow⟩
                          · rw [hok] at km
                            clear hok
                            go_wp2
                            go_ret
                            exact ⟨⟨_, rfl⟩, hbelow⟩
                        · have k3' : (m.kind == 3) = false := by simpa using k3
                          clear k3
                          by_cases k4 : m.kind = 4
                          · have k4' : (m.kind == 4) = true := by simpa using k4
                            clear k4
                            cases ba
                            all_goals go_wp2
                            all_goals
                              go_ret
                              exact ⟨⟨_, rfl⟩, hbelow⟩
                          · have k4' : (m.kind == 4) = false := by simpa using k4
                            clear k4
                            by_cases k5 : m.kind = 5
                            · have k5' : (m.kind == 5) = true := by simpa using k5
                              clear k5
                              go_wp2_with (go_at_call 83; refine (members83 _ m.members B3 _ (IntsAt.stays HI.out (Stays.of_below hbelow)) HML5.out).mono ?_; rintro e w9 ⟨rfl, hx9⟩; obtain rfl := hx9.symm; clear hx9)
                              all_goals
                                go_ret
                                exact ⟨⟨_, rfl⟩, hbelow⟩
                            · have k5' : (m.kind == 5) = false := by simpa using k5
                              clear k5
                              go_wp2
                              go_ret
                              exact ⟨⟨_, rfl⟩, hbelow⟩
end Go.Proofs.Ytibkmhacpodceaa

/- Walks: simnet's writer. -/
namespace Go.Proofs.Ytibkmhacpodceaa
open Go.RowKit

def WrAt (o : Own) (kw : Nat) (w : World) (b n : Nat) : Prop := ∃ A k c l, Blk w b 102 [.slice A k c] ∧ o b = kw ∧ RowOf 1 ByteR 5 o kw w (.slice A k c) l ∧ l.length ≤ n
def WroteIs (o : Own) (kw b n : Nat) (w : World) (e : Ending) (w' : World) : Prop := (∃ v, e = .returned v) ∧ ∃ o', WrAt o' kw w' b n ∧ Ext [kw] o o' w w'

theorem write_step {o : Own} {kw b n : Nat} {w w1 : World} {A : Option Addr} {k c : Nat} {l ds : List Int} {B : Nat → Prop} {xv : Value} (hB : Blk w b 102 [.slice A k c]) (ho : o b = kw) (hR : RowOf 1 ByteR 5 o kw w (.slice A k c) l) (hl : l.length ≤ n) (hw : Wf o w) (hk : kw ≠ 0) (hb : Below w.heap.size w w1)
    (hx : BytesAt B w1 xv ds) (hn : n + ds.length ≤ 4000000) :
    ∃ v' w', (Builtin.append_ #[46, 46] 46 #[.slice A k c, xv]).run Try.prog w1 = .ok v' w' ∧ ∃ A' k' c', v' = .slice A' k' c' ∧ b < w'.heap.size ∧ (∀ i, w'.frozen? ⟨b, i, none⟩ = false) ∧ w'.cell? ⟨b, 0, none⟩ = some (.slice A k c) ∧
      Hid (∃ o', WrAt o' kw (w'.setCell ⟨b, 0, none⟩ v') b (n + ds.length) ∧ Ext [kw] o o' w (w'.setCell ⟨b, 0, none⟩ v')) := by
  have e1 : Ext [] o o w w1 := Ext.of_below hb hw
  have hR1 := hR.stays (R' := ByteR) (e1.stays (k := kw) (by simp)) (fun _ _ h => h)
  obtain ⟨v', w', h1, o', h2, h3, h4⟩ := append_bytes 46 hR1 hx (by omega)
  have hB1 := e1.blk hB (by simp)
  have hB2 := h4 _ _ _ hB1 (by decide)
  obtain ⟨A5, c5, rfl, _⟩ := h2.form
  have ho' : o' b = kw := (h3.own b hB1.lt).trans ho
  refine ⟨_, w', h1, A5, _, c5, rfl, hB2.lt, hB2.frozens, hB2.cells 0, o', ⟨A5, _, c5, l ++ ds, hB2.set_ 0 _, ho', ?_, by rw [List.length_append]; omega⟩, ((e1.mono (by simp)).trans h3).setCell (.inr (by simp [ho])) _⟩
  exact RowOf.far (R' := ByteR) h2 hB2 (by decide) _ fun _ _ h => h

set_option maxHeartbeats 2000000 in
theorem byte63 (o : Own) (kw b n : Nat) (x : Int) (w : World) (h : WrAt o kw w b n) (hn : n ≤ 1000000) (hw : Wf o w) (hk : kw ≠ 0) :
    Calls Try.prog 63 #[.pointer (some ⟨b, 0, none⟩), .int .i64 x] w (WroteIs o kw b (n + 1) w) := by
  obtain ⟨A, k, c, l, hB, ho, hR, hl⟩ := h
  have k0 := hB.cells
  have f0 := hB.frozens
  have hlt := hB.lt
  have HS := Lib.hid (write_step hB ho hR hl hw hk ((Below.refl w.heap.size w).alloc (Nat.le_refl _) (.cells #[.int .u8 (x % 256)] 5)) (B := Any) (xv := .slice (some ⟨w.heap.size, 0, none⟩) 1 1) (ds := [x % 256]) (SliceOf.one (Blk.new w 5 [.int .u8 (x % 256)]) trivial rfl ⟨rfl, by omega, by omega⟩) (by simp; omega))
  clear hB hR
  go_enter Try.func63, Try.ntmps63
  go_wp2_with (at_builtin; refine wpList_append_ex rfl (.tmp 8) (.tmp 11) 46 rfl _ _ _ rfl rfl HS.out ?_; rintro v' w' ⟨A', k', c', rfl, hl2, f2, q2, HQ⟩)
  go_returns
  exact ⟨⟨_, rfl⟩, HQ.out⟩

set_option maxHeartbeats 2000000 in
theorem truth62 (o : Own) (kw b n : Nat) (x : Bool) (w : World) (h : WrAt o kw w b n) (hn : n ≤ 1000000) (hw : Wf o w) (hk : kw ≠ 0) :
    Calls Try.prog 62 #[.pointer (some ⟨b, 0, none⟩), .bool x] w (WroteIs o kw b (n + 1) w) := by
  have H := Lib.hid h
  clear h
  go_enter Try.func62, Try.ntmps62
  cases x
  · go_wp2_with fail
    refine (byte63 o kw b n 0 _ H.out hn hw hk).mono ?_
    rintro e w1 ⟨⟨v1, rfl⟩, h1⟩
    have H1 := Lib.hid h1
    clear h1
    go_wp2
    go_returns
    exact ⟨⟨_, rfl⟩, H1.out⟩
  · go_wp2_with fail
    refine (byte63 o kw b n 1 _ H.out hn hw hk).mono ?_
    rintro e w1 ⟨⟨v1, rfl⟩, h1⟩
    have H1 := Lib.hid h1
    clear h1
    go_wp2
    go_returns
    exact ⟨⟨_, rfl⟩, H1.out⟩

def CountInv (o : Own) (kw b n : Nat) (w wr : World) : Prop := ∃ o', WrAt o' kw wr b n ∧ Ext [kw] o o' w wr

set_option maxHeartbeats 4000000 in
theorem count61 (o : Own) (kw b n : Nat) (A : Option Addr) (n0 c0 : Nat) (l : List Int) (w : World) (h : WrAt o kw w b n) (hn : n ≤ 500000) (hI : IntsAt (Of o 0) w (.slice A n0 c0) l) (hl : l.length ≤ 5) (hb : ∀ x, x ∈ l → 0 ≤ x ∧ x ≤ 100000) (hw : Wf o w) (hk : kw ≠ 0) :
    Calls Try.prog 61 #[.pointer (some ⟨b, 0, none⟩), .slice A n0 c0] w (WroteIs o kw b (n + 800 * l.length) w) := by
  have hn0 := hI.len.1
  have HN := Lib.hid hn0
  have hn5 : n0 ≤ 5 := by omega
  have HI := Lib.hid hI
  have HBD := Lib.hid hb
  have HST : Hid (CountInv o kw b (n + 800 * 0) w w) := ⟨o, h, Ext.refl _ _ _⟩
  clear h hI hb hn0
  go_enter Try.func61, Try.ntmps61
  go_wp2
  go_loopw [8] (fun i wr => ∃ k : Nat, k ≤ n0 ∧ i = .int .i64 k ∧ Hid (CountInv o kw b (n + 800 * k) w wr)) (fun i _ => n0 - (intOf i).toNat)
  case atStart => exact ⟨0, Nat.zero_le _, rfl, HST⟩
  case round =>
    obtain ⟨k, hk', rfl, HK⟩ := hrel
    by_cases hlt : k < n0
    · obtain ⟨x, hx⟩ : ∃ x, l[k]? = some x := ⟨_, List.getElem?_eq_getElem (by have := HN.out; omega)⟩
      have hxm := HBD.out x (List.mem_of_getElem? hx)
      obtain ⟨g, off, rfl, hg, k0⟩ : ∃ g off, A = some ⟨g, off, none⟩ ∧ g < wr.heap.size ∧ wr.cell? ⟨g, off + k, none⟩ = some (.int .i64 x) := by
        obtain ⟨o1, _, he1⟩ := HK.out
        exact IntsAt.at? (IntsAt.stays HI.out (he1.stays (by simpa using hk.symm))) hx
      have HLT := Lib.hid hlt
      have hx0 := hxm.1
      have hx1 := hxm.2
      have HIN : Hid (∃ added : Nat, 127 * (added : Int) + x ≤ x ∧ CountInv o kw b (n + 800 * k + added) w wr) := ⟨0, by omega, HK.out⟩
      clear hx hxm
      go_wp2
      go_loopw [5] (fun s wx => ∃ y : Int, s = .int .i64 y ∧ 0 ≤ y ∧ y ≤ 100000 ∧ Hid (∃ added : Nat, 127 * (added : Int) + y ≤ x ∧ CountInv o kw b (n + 800 * k + added) w wx)) (fun s _ => (intOf s).toNat)
      case atStart => exact ⟨x, rfl, hx0, hx1, HIN⟩
      case round =>
        obtain ⟨y, rfl, hy0, hy1, HY⟩ := hrel
        obtain ⟨added, ha, o1, hW1, hE1⟩ := HY.out
        have HW1 := Lib.hid hW1
        have HE1 := Lib.hid hE1
        have hadd : added ≤ 787 := by omega
        have HA := Lib.hid ha
        clear ha hW1 hE1 HIN
        by_cases h128 : 128 ≤ y
        · have H128 := Lib.hid h128
          go_wp2_with fail
          refine (byte63 o1 kw b (n + 800 * k + added) _ _ HW1.out (by omega) (HE1.out.wf hw) hk).mono ?_
          rintro e w2 ⟨⟨v2, rfl⟩, o2, hW2, hE2⟩
          have HW2 := Lib.hid hW2
          have HE2 := Lib.hid hE2
          clear hW2 hE2
          go_wp2
          go_roundw
          case rel => exact ⟨y / 128, rfl, by omega, by omega, added + 1, by have := HA.out; have := H128.out; omega, o2, HW2.out, HE1.out.trans HE2.out⟩
          case measure => have := H128.out; simp [intOf]; omega
        · go_wp2_with fail
          refine (byte63 o1 kw b (n + 800 * k + added) _ _ HW1.out (by omega) (HE1.out.wf hw) hk).mono ?_
          rintro e w2 ⟨⟨v2, rfl⟩, o2, hW2, hE2⟩
          have HW2 := Lib.hid hW2
          have HE2 := Lib.hid hE2
          clear hW2 hE2
          go_wp2
          go_roundw
          case rel =>
            refine ⟨k + 1, by have := HLT.out; omega, by go_num, o2, ?_, HE1.out.trans HE2.out⟩
            obtain ⟨A9, k9, c9, l9, q1, q2, q3, q4⟩ := HW2.out
            exact ⟨A9, k9, c9, l9, q1, q2, q3, by omega⟩
          case measure => have := HLT.out; simp [intOf]; omega
    · obtain rfl : k = n0 := by omega
      go_wp2
      go_returns
      obtain ⟨o1, hW1, hE1⟩ := HK.out
      rw [← HN.out]
      exact ⟨⟨_, rfl⟩, o1, hW1, hE1⟩

theorem WrAt.mono {o : Own} {kw : Nat} {w : World} {b n n' : Nat} (h : WrAt o kw w b n) (hn : n ≤ n') : WrAt o kw w b n' := by
  obtain ⟨A9, k9, c9, l9, q1, q2, q3, q4⟩ := h
  exact ⟨A9, k9, c9, l9, q1, q2, q3, by omega⟩
theorem WrAt.below {o : Own} {kw : Nat} {w w1 : World} {b n : Nat} (h : WrAt o kw w b n) (hb : Below w.heap.size w w1) (hw : Wf o w) : WrAt o kw w1 b n := by
  obtain ⟨A9, k9, c9, l9, q1, q2, q3, q4⟩ := h
  have e1 : Ext [] o o w w1 := Ext.of_below hb hw
  exact ⟨A9, k9, c9, l9, e1.blk q1 (by simp), q2, q3.stays (e1.stays (k := kw) (by simp)) (fun _ _ h => h), q4⟩

set_option maxHeartbeats 4000000 in
theorem text64 (o : Own) (kw b n : Nat) (A : Option Addr) (n0 c0 : Nat) (ds : List Int) (w : World) (h : WrAt o kw w b n) (hn : n ≤ 400000) (hD : BytesAt (Of o 0) w (.slice A n0 c0) ds) (hl : ds.length ≤ 30000) (hw : Wf o w) (hk : kw ≠ 0) :
    Calls Try.prog 64 #[.pointer (some ⟨b, 0, none⟩), .slice A n0 c0] w (WroteIs o kw b (n + 800 + ds.length) w) := by
  have hn0 := hD.len.1
  have HN := Lib.hid hn0
  have hnl : n0 ≤ 30000 := by omega
  have HD := Lib.hid hD
  have H := Lib.hid h
  clear h hD hn0
  have HBA : Hid (∀ y, Below w.heap.size w (w.alloc y)) := fun y => (Below.refl _ _).alloc (Nat.le_refl _) _
  go_enter Try.func64, Try.ntmps64
  have HI : Hid (IntsAt (Of o 0) (w.alloc (.cells #[.int .i64 (n0 : Int)] 3)) (.slice (some ⟨w.heap.size, 0, none⟩) 1 1) [(n0 : Int)]) := SliceOf.one (Blk.new w 3 [.int .i64 (n0 : Int)]) (hw _ (Nat.le_refl _)) rfl rfl
  go_wp2_with fail
  refine (count61 o kw b n _ 1 1 [(n0 : Int)] _ (H.out.below (HBA.out _) hw) (by omega) HI.out (by simp) (fun x hx => by simp at hx; omega) (fun b hb => hw b (by simp at hb; omega)) hk).mono ?_
  rintro e w1 ⟨⟨v1, rfl⟩, o1, hW1, hE1⟩
  have HE1 : Hid (Ext [kw] o o1 w w1) := (Ext.of_below (HBA.out _) hw).trans hE1
  obtain ⟨A1, k1, c1, l1, hB, ho, hR, hl1⟩ := hW1
  have k0 := hB.cells
  have f0 := hB.frozens
  have hlt := hB.lt
  have HS := Lib.hid (write_step hB ho hR hl1 (HE1.out.wf hw) hk (Below.refl w1.heap.size w1) (BytesAt.stays HD.out (HE1.out.stays (by simpa using hk.symm))) (by simp; omega))
  clear hB hR hE1
  go_wp2_with (at_builtin; refine wpList_append_ex rfl (.tmp 13) (.tmp 14) 46 rfl _ _ _ rfl rfl HS.out ?_; rintro v' w' ⟨A', k', c', rfl, hl2, f2, q2, HQ⟩)
  go_returns
  obtain ⟨o2, hW2, hE2⟩ := HQ.out
  exact ⟨⟨_, rfl⟩, o2, hW2.mono (by simp), HE1.out.trans hE2⟩

set_option maxHeartbeats 400000 in
theorem clip65 (A : Option Addr) (n c : Nat) (w : World) (hn : n ≤ c) :
    Calls Try.prog 65 #[.slice A n c] w fun e w' => (∃ v, e = .returned v) ∧ w' = w := by
  go_enter Try.func65, Try.ntmps65
  go_wp2
  all_goals
    go_ret
    exact ⟨⟨_, rfl⟩, rfl⟩
end Go.Proofs.Ytibkmhacpodceaa
