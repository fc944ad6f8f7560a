/- Walks: awake; the world in memory; world. -/
import Derived.Test.YtibkmhacpodceaaW38
import Derived.Test.YtibkmhacpodceaaPlain
namespace Go.Proofs.Ytibkmhacpodceaa
open Go.RowKit

theorem IntsAt.fresh {B : Nat → Prop} (wr : World) (g : Nat) (hg : g = wr.heap.size) (xs : List Int) (hB : B g) :
    IntsAt B (wr.alloc (.cells (xs.map (Value.int .i64)).toArray 3)) (.slice (some ⟨g, 0, none⟩) xs.length xs.length) xs := by
  subst hg
  have hK := Blk.new wr 3 (xs.map (Value.int .i64))
  refine ⟨_, xs.length, xs.map (Value.int .i64), rfl, Nat.le_refl _, ?_, fun _ => ⟨wr.heap.size, 0, rfl, hB, hK.lt, fun j u hu => by rw [Nat.zero_add, hK.cell, hu]⟩⟩
  have : ∀ ys : List Int, Elems 1 IntR ys (ys.map (Value.int .i64)) := by
    intro ys
    induction ys with
    | nil => rfl
    | cons y ys ih => exact ⟨by simp, by simp [IntR], by simpa using ih⟩
  exact this xs

theorem fresh_log_ok {l : List Int} (h : ∀ n, n ∈ l → 1 ≤ n ∧ n ≤ 5) (hl : l.length ≤ 5) : LogM.Ok ⟨0, 0, l, [], 0⟩ := by
  refine ⟨?_, ?_, ?_, ?_, ?_, ?_, ?_, h, hl, fun i hi => by simp at hi⟩ <;> simp

theorem replicate_pair (q : Nat) : ((List.replicate 6 ((0 : Int), (0 : Int)))[q]?).getD (0, 0) = (0, 0) := by
  rw [List.getElem?_replicate]; split <;> rfl
theorem awake_fits : (RaftM.freshG 1 1 0 0 ⟨0, 0, [1], [], 0⟩ []).Fits := by
  refine ⟨⟨fresh_log_ok (by simp) (by simp), by decide, by decide, by decide, by decide, ?_, by decide, ?_, ?_, ?_, ?_, by decide, by decide, by decide⟩, by decide, by decide, by decide, by decide⟩
  · intro q hq
    have : q ∈ [(1 : Int)] := hq
    rw [List.mem_singleton.1 this]; decide
  all_goals
    intro q
    unfold RaftM.freshG
    first | unfold RaftM.next | unfold RaftM.match_
    dsimp only
    rw [replicate_pair]
    decide

set_option maxHeartbeats 4000000 in
theorem awake4 (w : World) : Calls Try.prog 4 #[] w fun e w' => e = .returned (.bool true) ∧ Below w.heap.size w w' := by
  have HW0 : Hid (Wf zeroOwn w) := wf_zero w
  go_enter Try.func4, Try.ntmps4
  go_wp2_with fail
  refine (new8 zeroOwn 3 _ [1] (Of zeroOwn 0) _ (IntsAt.fresh w _ rfl [1] rfl) (by simp) (by decide) (wf_zero _)).mono ?_
  rintro e w1 ⟨b1, o1, rfl, hL1, hE1⟩
  have HL1 := Lib.hid hL1
  have HE1 := Lib.hid hE1
  clear hL1 hE1
  go_wp2_with fail
  refine (new9 o1 2 3 b1 _ 1 1 0 0 [] none 0 0 _ HL1.out (fresh_log_ok (by simp) (by simp)) (by decide) (by decide) (by decide) (by decide) (by decide) (by decide) (.inl rfl) (by decide) SliceOf.nil_ (by simp) (HE1.out.wf (wf_zero _)) (by decide) (by decide)).mono ?_
  rintro e w2 ⟨b2, o2, rfl, hR2, hE2⟩
  have HR2 := Lib.hid hR2
  have HE2 := Lib.hid hE2
  clear hR2 hE2
  go_wp2_with fail
  refine (tick10 o2 2 3 b2 _ 1 _ HR2.out awake_fits (by decide) (by decide) (HE2.out.wf (HE1.out.wf (wf_zero _))) (by decide) (by decide) (by decide)).mono ?_
  rintro e w3 ⟨v3, rfl, o3, A3, n3, rfl, _, hR3, hE3⟩
  have HE3 := Lib.hid hE3
  go_wp2_with fail
  refine (role11 o3 2 3 b2 _ _ hR3).mono ?_
  rintro e w4 ⟨rfl, rfl⟩
  clear hR3 hE3
  have HT : Hid (((RaftM.freshG 1 1 0 0 ⟨0, 0, [1], [], 0⟩ []).tick 1).role = 3) := by unfold Hid; decide
  generalize ((RaftM.freshG 1 1 0 0 ⟨0, 0, [1], [], 0⟩ []).tick 1).role = rr at HT
  go_wp2_with fail
  go_ret
  refine ⟨by rw [HT.out]; rfl, ?_⟩
  exact ((((Ext.refl [2, 3] zeroOwn w).alloc _).trans (HE1.out.mono (by simp))).trans ((HE2.out.mono (by simp)).trans HE3.out)).zero_below (by simp)

/-! The world in memory: node j's own blocks belong to 2 j, its log's to 2 j + 1; the rows to 20, 21, 22; the world's block to 23 -/

def pcell (p : Nat → Nat) (k j : Nat) : Value := .pointer (if 1 ≤ j ∧ j < k then some ⟨p j, 0, none⟩ else none)
def worldCells (p : Nat → Nat) (k : Nat) (vs vc vl : Value) : List Value := [pcell p k 0, pcell p k 1, pcell p k 2, pcell p k 3, pcell p k 4, pcell p k 5, vs, vc, vl]
theorem worldCells_set (p : Nat → Nat) (vs vc vl : Value) (b : Nat) : ∀ k : Nat, 1 ≤ k → k ≤ 5 → (worldCells p k vs vc vl).set k (.pointer (some ⟨b, 0, none⟩)) = worldCells (fun j => if j = k then b else p j) (k + 1) vs vc vl
  | 1, _, _ | 2, _, _ | 3, _, _ | 4, _, _ | 5, _, _ => by simp [worldCells, pcell]
  | 0, h, _ => absurd h (by decide)
  | k + 6, _, h => absurd h (by omega)
theorem worldCells_put (p : Nat → Nat) (vs vc vl : Value) (b : Nat) : ∀ k : Nat, 1 ≤ k → k ≤ 5 → (worldCells p 6 vs vc vl).set k (.pointer (some ⟨b, 0, none⟩)) = worldCells (fun j => if j = k then b else p j) 6 vs vc vl
  | 1, _, _ | 2, _, _ | 3, _, _ | 4, _, _ | 5, _, _ => by simp [worldCells, pcell]
  | 0, h, _ => absurd h (by decide)
  | k + 6, _, h => absurd h (by omega)
theorem worldCells_at (p : Nat → Nat) (vs vc vl : Value) : ∀ k : Nat, 1 ≤ k → k ≤ 5 → (worldCells p 6 vs vc vl)[k]? = some (.pointer (some ⟨p k, 0, none⟩))
  | 1, _, _ | 2, _, _ | 3, _, _ | 4, _, _ | 5, _, _ => by simp [worldCells, pcell]
  | 0, h, _ => absurd h (by decide)
  | k + 6, _, h => absurd h (by omega)

def Owners : List Nat := [2, 3, 4, 5, 6, 7, 8, 9, 10, 11, 20, 21, 22, 23]
theorem owners_kr (j : Nat) (h1 : 1 ≤ j) (h5 : j ≤ 5) : 2 * j ∈ Owners ∧ 2 * j + 1 ∈ Owners := by
  have : j = 1 ∨ j = 2 ∨ j = 3 ∨ j = 4 ∨ j = 5 := by omega
  rcases this with rfl | rfl | rfl | rfl | rfl <;> decide

/-- the nodes below k are made -/
def NodesAt (o : Own) (w : World) (p : Nat → Nat) (k : Nat) (node : Int → RaftM) : Prop := ∀ j : Nat, 1 ≤ j → j < k → RaftAt o (2 * j) (2 * j + 1) w (p j) (node j)
theorem NodesAt.ext {o o' : Own} {w w' : World} {p : Nat → Nat} {k : Nat} {node : Int → RaftM} (h : NodesAt o w p k node) (hk : k ≤ 6) {S : List Nat} (he : Ext S o o' w w') (hS : ∀ x, x ∈ S → 20 ≤ x) : NodesAt o' w' p k node := by
  intro j h1 h2
  refine (h j h1 h2).ext he ?_ ?_ ?_
  · intro hx; have := hS _ hx; omega
  · intro hx; have := hS _ hx; omega
  · intro hx; have := hS _ hx; omega

def WorldAt (o : Own) (w : World) (wb : Nat) (W : WorldM) : Prop :=
  ∃ (p : Nat → Nat) (vs vc vl : Value), Blk w wb 45 (worldCells p 6 vs vc vl) ∧ o wb = 23 ∧ NodesAt o w p 6 W.node ∧ RowOf 12 (MsgR (Of o 0) w) 48 o 20 w vs W.sent ∧ RowOf 4 (EntR (Of o 0) w) 63 o 21 w vc W.com ∧ RowOf 1 IntR 3 o 22 w vl W.ldr

def PartAt (w : World) (wb k : Nat) (wr : World) : Prop := ∃ o p, Ext Owners zeroOwn o w wr ∧ Blk wr wb 45 (worldCells p k (.slice none 0 0) (.slice none 0 0) (.slice none 0 0)) ∧ o wb = 23 ∧ NodesAt o wr p k WorldM.start.node

theorem PartAt.start (w : World) : PartAt w w.heap.size 1 (w.alloc (.cells #[.pointer none, .pointer none, .pointer none, .pointer none, .pointer none, .pointer none, .slice none 0 0, .slice none 0 0, .slice none 0 0] 45)) := by
  refine ⟨upd zeroOwn w.heap.size 23, fun _ => 0, ((Ext.refl Owners zeroOwn w).alloc _).give (Nat.le_refl _) (by simp), Blk.new w 45 _, upd_same _ _ _, fun j h1 h2 => absurd h1 (by omega)⟩

theorem PartAt.step {w wr w2 : World} {wb k b2 : Nat} {o o2 : Own} {p : Nat → Nat} (h0 : Ext Owners zeroOwn o w wr) (h1 : Blk wr wb 45 (worldCells p k (.slice none 0 0) (.slice none 0 0) (.slice none 0 0))) (h2 : o wb = 23) (h3 : NodesAt o wr p k WorldM.start.node)
    (hk1 : 1 ≤ k) (hk5 : k ≤ 5) (hR : RaftAt o2 (2 * k) (2 * k + 1) w2 b2 (WorldM.start.node k)) (hE : Ext [] o o2 wr w2) : PartAt w wb (k + 1) (w2.setCell ⟨wb, k, none⟩ (.pointer (some ⟨b2, 0, none⟩))) := by
  have hB := hE.blk h1 (by simp)
  have ho := (hE.own _ h1.lt).trans h2
  have hS : Ext [23] o2 o2 w2 (w2.setCell ⟨wb, k, none⟩ (.pointer (some ⟨b2, 0, none⟩))) := (Ext.refl [23] o2 w2).setCell (.inr (by simp [ho])) _
  refine ⟨o2, fun j => if j = k then b2 else p j, (h0.trans (hE.mono (by simp))).trans (hS.mono (by simp [Owners])), ?_, ho, ?_⟩
  · have := hB.set_ k (.pointer (some ⟨b2, 0, none⟩))
    rw [worldCells_set p _ _ _ b2 k hk1 hk5] at this
    exact this
  · have h4 := (h3.ext (by omega) hE (by simp)).ext (by omega) hS (by simp)
    intro j j1 j2
    by_cases hj : j = k
    · subst hj
      simp only [if_pos]
      exact hR.ext hS (by simp; omega) (by simp; omega) (by simp)
    · simp only [if_neg hj]
      exact h4 j j1 (by omega)

theorem PartAt.done {w wr : World} {wb : Nat} (h : PartAt w wb 6 wr) : ∃ o, Ext Owners zeroOwn o w wr ∧ WorldAt o wr wb WorldM.start := by
  obtain ⟨o, p, h0, h1, h2, h3⟩ := h
  exact ⟨o, h0, p, _, _, _, h1, h2, h3, RowOf.nil_, RowOf.nil_, RowOf.nil_⟩

set_option maxHeartbeats 4000000 in
theorem world5 (w : World) : Calls Try.prog 5 #[] w fun e w' => ∃ wb o, e = .returned (.pointer (some ⟨wb, 0, none⟩)) ∧ Ext Owners zeroOwn o w w' ∧ WorldAt o w' wb WorldM.start := by
  have HP0 := Lib.hid (PartAt.start w)
  go_enter Try.func5, Try.ntmps5
  go_wp2_with fail
  go_loopw [2] (fun i wr => ∃ k : Nat, 1 ≤ k ∧ k ≤ 6 ∧ i = .int .i64 k ∧ Hid (PartAt w w.heap.size k wr)) (fun i _ => 6 - (intOf i).toNat)
  case atStart => exact ⟨1, Nat.le_refl _, by decide, rfl, HP0.out⟩
  case round =>
    obtain ⟨k, hk1, hk6, rfl, HK⟩ := hrel
    by_cases hlt : k ≤ 5
    · obtain ⟨o, p, h0, h1, h2, h3⟩ := HK.out
      have HPS : Hid (∀ (o2 : Own) (w2 : World) (b2 : Nat), RaftAt o2 (2 * k) (2 * k + 1) w2 b2 (WorldM.start.node k) → Ext [] o o2 wr w2 → PartAt w w.heap.size (k + 1) (w2.setCell ⟨w.heap.size, k, none⟩ (.pointer (some ⟨b2, 0, none⟩)))) := fun o2 w2 b2 hR hE => PartAt.step h0 h1 h2 h3 hk1 hlt hR hE
      have HW0 : Hid (Wf o wr) := h0.wf (wf_zero w)
      have HB := Lib.hid h1
      clear h0 h1 h2 h3
      go_wp2_with fail
      refine (new8 o (2 * k + 1) _ [1, 2, 3] (Of o 0) _ (IntsAt.fresh wr _ rfl [1, 2, 3] (HW0.out _ (Nat.le_refl _))) (by simp) (by decide) (((Ext.refl [] o wr).alloc _).wf HW0.out)).mono ?_
      rintro e w1 ⟨b1, o1, rfl, hL1, hE1⟩
      have HL1 := Lib.hid hL1
      have HE1 := Lib.hid (((Ext.refl [] o wr).alloc _).trans hE1)
      clear hL1 hE1
      go_wp2_with fail
      refine (new9 o1 (2 * k) (2 * k + 1) b1 _ 7 k 0 0 [] none 0 0 _ HL1.out (fresh_log_ok (by intro n hn; simp at hn; omega) (by simp)) (by decide) (by decide) (by omega) (by omega) (by decide) (by decide) (.inl rfl) (by decide) SliceOf.nil_ (by simp) (HE1.out.wf HW0.out) (by omega) (by omega)).mono ?_
      rintro e w2 ⟨b2, o2, rfl, hR2, hE2⟩
      have HR2 : Hid (RaftAt o2 (2 * k) (2 * k + 1) w2 b2 (WorldM.start.node k)) := hR2
      have HE2 := Lib.hid (HE1.out.trans hE2)
      have HB2 := Lib.hid (HE2.out.blk HB.out (by simp))
      have hlt2 := HB2.out.lt
      have f2 := HB2.out.frozens
      have c2 : w2.cell? ⟨w.heap.size, k, none⟩ = some (.pointer none) := by
        rw [HB2.out.cells]
        have : k = 1 ∨ k = 2 ∨ k = 3 ∨ k = 4 ∨ k = 5 := by omega
        rcases this with rfl | rfl | rfl | rfl | rfl <;> simp [worldCells, pcell]
      clear hR2 hE2
      go_wp2_with fail
      go_roundw
      case rel => exact ⟨k + 1, by omega, by omega, by go_num, HPS.out _ _ _ HR2.out HE2.out⟩
      case measure => simp [intOf]; omega
    · go_wp2_with fail
      go_ret
      obtain rfl : k = 6 := by omega
      obtain ⟨o, h0, h1⟩ := HK.out.done
      exact ⟨_, o, rfl, h0, h1⟩
end Go.Proofs.Ytibkmhacpodceaa

/- Walks: changed. -/
namespace Go.Proofs.Ytibkmhacpodceaa
open Go.RowKit

/-- numbers as far as they are made -/
def SomeMade (w : World) (k : Nat) (v : Value) (wr : World) : Prop := ∃ o l, RowOf 1 IntR 3 o 1 wr v l ∧ Ext [1] zeroOwn o w wr ∧ l.length ≤ k

theorem SomeMade.step {w wr : World} {k : Nat} {v : Value} (h : SomeMade w k v wr) (hk : k ≤ 1000) (x : Int) (ty : TypeId) :
    ∃ v' w', (Builtin.append_ #[35, 35] ty #[v, .slice (some ⟨wr.heap.size, 0, none⟩) 1 1]).run Try.prog (wr.alloc (.cells #[.int .i64 x] 3)) = .ok v' w' ∧ Hid (SomeMade w (k + 1) v' w') := by
  obtain ⟨o, l, hr, he, hl⟩ := h
  have hr1 := hr.stays (R' := IntR) (((Stays.refl (Of o 1) wr).alloc (.cells #[.int .i64 x] 3))) (fun _ _ h => h)
  have hX : IntsAt Any (wr.alloc (.cells #[.int .i64 x] 3)) (.slice (some ⟨wr.heap.size, 0, none⟩) 1 1) [x] := SliceOf.one (Blk.new wr 3 [.int .i64 x]) trivial rfl rfl
  obtain ⟨v', w', g1, o', g2, g3, _⟩ := append_ints (k := 1) ty hr1 hX (by simp only [List.length_singleton]; omega)
  exact ⟨v', w', g1, o', _, g2, (he.alloc _).trans g3, by simp; omega⟩
theorem SomeMade.mono {w wr : World} {k k' : Nat} {v : Value} (h : SomeMade w k v wr) (hk : k ≤ k') : SomeMade w k' v wr := by
  obtain ⟨o, l, hr, he, hl⟩ := h
  exact ⟨o, l, hr, he, by omega⟩

set_option maxRecDepth 100000 in
set_option maxHeartbeats 4000000 in
theorem changed16 (A n c) (l0 : List Int) (x : Int) (B : Nat → Prop) (w : World) (hD : IntsAt B w (.slice A n c) l0) (hl : l0.length ≤ 1000) :
    Calls Try.prog 16 #[.slice A n c, .int .i64 x] w fun e w' => ∃ v, e = .returned v ∧ SomeMade w 5 v w' := by
  have HD := Lib.hid hD
  have hn := hD.len.1
  have HN := Lib.hid hn
  have hn1 : n ≤ 1000 := by omega
  have H0 : Hid (SomeMade w 0 (.slice none 0 0) w) := ⟨zeroOwn, [], RowOf.nil_, Ext.refl _ _ _, by simp⟩
  clear hD hn
  go_enter Try.func16, Try.ntmps16
  go_wp2_with fail
  go_loopw [5, 6] (fun i5 i6 wr => ∃ k : Nat, 1 ≤ k ∧ k ≤ 6 ∧ i6 = .int .i64 k ∧ Hid (SomeMade w (k - 1) i5 wr)) (fun _ i6 _ => 6 - (intOf i6).toNat)
  case atStart => exact ⟨1, Nat.le_refl _, by decide, rfl, H0.out⟩
  case round =>
    obtain ⟨k, hk1, hk6, rfl, HK⟩ := hrel
    by_cases hlt : k ≤ 5
    · have HBK : Hid (Below w.heap.size w wr) := by obtain ⟨o, l, _, he, _⟩ := HK.out; exact he.zero_below (by simp)
      have HA := Lib.hid (HK.out.step (by omega) (k : Int) 35)
      have HLT := Lib.hid hlt
      go_wp2_with fail
      clear hlt
      go_loopw [7, 8] (fun i7 i8 wx => ∃ (hb : Bool) (j : Nat), j ≤ n ∧ i7 = .bool hb ∧ i8 = .int .i64 j ∧ wx = wr) (fun _ i8 _ => n - (intOf i8).toNat)
      case atStart => exact ⟨false, 0, Nat.zero_le _, rfl, rfl, rfl⟩
      case round =>
        obtain ⟨hb, j, hj, rfl, rfl, rfl⟩ := hrel
        by_cases hjn : j < n
        · obtain ⟨y, hy⟩ : ∃ y, l0[j]? = some y := ⟨_, List.getElem?_eq_getElem (by have := HN.out; omega)⟩
          obtain ⟨g, off, rfl, hg, k0⟩ := IntsAt.at? (IntsAt.stays HD.out (Stays.of_below HBK.out)) hy
          have HJN := Lib.hid hjn
          clear hy
          cases hb
          · go_wp2
            go_roundw
            case rel => exact ⟨_, j + 1, by have := HJN.out; omega, rfl, by go_num, trivial⟩
            case measure => have := HJN.out; simp [intOf]; omega
          · go_wp2
            go_roundw
            case rel => exact ⟨_, j + 1, by have := HJN.out; omega, rfl, by go_num, trivial⟩
            case measure => have := HJN.out; simp [intOf]; omega
        · cases hb
          · cases hq : ((k : Int) == x)
            · skip
              go_wp2_with fail
              go_roundw
              case rel => exact ⟨k + 1, by omega, by have := HLT.out; omega, by go_num, HK.out.mono (by omega)⟩
              case measure => have := HLT.out; simp [intOf]; omega
            · skip
              go_wp2_with (at_builtin; refine wpList_append_ex rfl (.tmp 33) (.tmp 35) 35 rfl _ _ _ rfl rfl HA.out ?_; rintro v' w' HI')
              go_roundw
              case rel => exact ⟨k + 1, by omega, by have := HLT.out; omega, by go_num, HI'.out.mono (by omega)⟩
              case measure => have := HLT.out; simp [intOf]; omega
          · cases hq : ((k : Int) == x)
            · skip
              go_wp2_with (at_builtin; refine wpList_append_ex rfl (.tmp 33) (.tmp 35) 35 rfl _ _ _ rfl rfl HA.out ?_; rintro v' w' HI')
              go_roundw
              case rel => exact ⟨k + 1, by omega, by have := HLT.out; omega, by go_num, HI'.out.mono (by omega)⟩
              case measure => have := HLT.out; simp [intOf]; omega
            · skip
              go_wp2_with fail
              go_roundw
              case rel => exact ⟨k + 1, by omega, by have := HLT.out; omega, by go_num, HK.out.mono (by omega)⟩
              case measure => have := HLT.out; simp [intOf]; omega
    · go_wp2_with fail
      go_ret
      exact ⟨_, rfl, HK.out.mono (by omega)⟩
end Go.Proofs.Ytibkmhacpodceaa
