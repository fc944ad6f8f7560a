/- RaftcoreSafe: for every list of events, five nodes that run the program's raft answer true: each term has one leader at most, and at each index one entry at most is ever committed; the list reads as it did. Conditions: none beyond the row's own. -/
import Derived.Test.YtibkmhacpodceaaRows
import Derived.Test.YtibkmhacpodceaaW51
import Derived.ProofKit
import Derived.OpenShut
import Derived.Carry
import Derived.ChangeOld
import Derived.Below
import Derived.Deep.Slices
import Derived.Deep.Strs
import Derived.Deep.MidRow
namespace Go.Proofs.Ytibkmhacpodceaa
open Go.ChangeShapes Go.WideShapes Go.ChangeAt Go.RowKit

theorem own_ : ownKnob Try.prog.godebug = none := by kernel_rfl
theorem laidOut_ : laidOutB Try.prog = true := by kernel_rfl

theorem cells_event : Try.prog.cellsOf 28 = 3 := by kernel_rfl
theorem cells_int : Try.prog.cellsOf 3 = 1 := by kernel_rfl

theorem list3 {α : Type} {l : List α} (h : l.length = 3) : ∃ a b c, l = [a, b, c] := by
  match l, h with
  | [a, b, c], _ => exact ⟨a, b, c, rfl⟩

theorem cell_spot {w : World} {a : Addr} {v : Value} (h : w.cell? a = some v) : a = ⟨a.block, a.off, none⟩ ∧ a.block < w.heap.size := by
  obtain ⟨b, o, sp⟩ := a
  unfold World.cell? at h
  dsimp only at h
  split at h
  · rename_i hb
    refine ⟨?_, (Array.getElem?_eq_some_iff.1 hb).1⟩
    cases sp with
    | none => rfl
    | some s => simp at h
  · cases h

/-- an event's cells -/
theorem event_cells {H : Type} {enc : TypeId × Value → H} {w : World} {f : Nat} {cs : List Value} {x : DataW H × List MemPlace} (h2 : DataW.trod enc Try.prog w 0 (fun _ => true) true f 28 cs = some x) (hlen : cs.length = 3) :
    ∃ d0 d1 d2 : Int, cs = [.int .i64 d0, .int .i64 d1, .int .i64 d2] := by
  obtain ⟨xs, k, _, _, _, hxl, hf⟩ := DataW.trod_struct Try.underlying28 h2
  obtain ⟨v0, v1, v2, rfl⟩ := list3 hlen
  obtain ⟨y0, y1, y2, rfl⟩ := list3 hxl
  have g0 : DataW.trod enc Try.prog w 0 (fun _ => true) true k 3 (([v0, v1, v2].drop 0).take (Try.prog.cellsOf 3)) = some y0 := hf 0 _ rfl
  have g1 : DataW.trod enc Try.prog w 0 (fun _ => true) true k 3 (([v0, v1, v2].drop 1).take (Try.prog.cellsOf 3)) = some y1 := hf 1 _ rfl
  have g2 : DataW.trod enc Try.prog w 0 (fun _ => true) true k 3 (([v0, v1, v2].drop 2).take (Try.prog.cellsOf 3)) = some y2 := hf 2 _ rfl
  rw [cells_int] at g0 g1 g2
  obtain ⟨d0, e0, _⟩ := DataW.trod_int Try.underlying3 g0
  obtain ⟨d1, e1, _⟩ := DataW.trod_int Try.underlying3 g1
  obtain ⟨d2, e2, _⟩ := DataW.trod_int Try.underlying3 g2
  simp only [List.drop_zero, List.take_succ_cons, List.take_zero, List.drop_succ_cons, List.cons.injEq, and_true] at e0 e1 e2
  exact ⟨d0, d1, d2, by rw [e0, e1, e2]⟩

theorem events_open {H : Type} {enc : TypeId × Value → H} {w : World} {fuel : Nat} {A : Option Addr} {n c : Nat} {x : DataW H × List MemPlace}
    (h : DataW.trod enc Try.prog w 0 (fun _ => true) true fuel 22 [.slice A n c] = some x) : EventsAt w A n := by
  intro i hi
  rcases Go.Deep.open_slice Try.underlying22 h with ⟨h0, _⟩ | ⟨a, len, cap, m, f, D, Pl, h0, _, hl, _, hm, _, hx⟩
  · simp only [List.cons.injEq, Value.slice.injEq, and_true] at h0
    omega
  · simp only [List.cons.injEq, Value.slice.injEq, and_true] at h0
    obtain ⟨rfl, rfl, rfl⟩ := h0
    rw [if_pos rfl] at hm
    subst hm
    have key : ∀ j, j < n → ∃ d0 d1 d2 : Int, w.cell? (a.add (j * 3)) = some (.int .i64 d0) ∧ w.cell? (a.add (j * 3 + 1)) = some (.int .i64 d1) ∧ w.cell? (a.add (j * 3 + 2)) = some (.int .i64 d2) := by
      intro j hj
      obtain ⟨cs, h1, h2⟩ := hx j (by omega)
      rw [cells_event] at h1
      obtain ⟨_, hlen, hcell⟩ := World.cells?_some h1
      obtain ⟨d0, d1, d2, rfl⟩ := event_cells h2 hlen
      have e0 := hcell 0 (by decide)
      have e1 := hcell 1 (by decide)
      have e2 := hcell 2 (by decide)
      rw [Go.Deep.add_add] at e0 e1 e2
      exact ⟨d0, d1, d2, e0, e1, e2⟩
    obtain ⟨q0, _, _, hq, _, _⟩ := key 0 (by omega)
    obtain ⟨ha, hlt⟩ := cell_spot (show w.cell? a = _ from hq)
    obtain ⟨d0, d1, d2, k0, k1, k2⟩ := key i hi
    obtain ⟨b, o, sp⟩ := a
    obtain rfl : sp = none := by injection ha
    rw [Addr.add_mid] at k0 k1 k2
    exact ⟨b, o, d0, d1, d2, rfl, hlt, k0, k1, k2⟩

set_option maxRecDepth 100000 in
theorem lifted_ (os : Os) (started : os.Started) (H : Type) (enc : TypeId × Value → H) :
    ReturnsInHanded {} Try.checked os 3 .any (Rows.raftcoreSafeSpec.pre6 enc Try.prog Try.f3 Rows.raftcoreSafeRow.domain false) (Rows.raftcoreSafeSpec.post enc Try.prog Try.f3 false true false false) := by
  refine returnsInHanded_of_change (C := Try.checked) own_ started (by kernel_rfl) Try.func3
    (ChangeSpec.witness6 (enc := enc) (C := Try.checked) false ⟨#[], #[.slice none 0 0], []⟩ 8 (by kernel_rfl) (by kernel_rfl) (by kernel_rfl) (by kernel_rfl)) ?_
  intro W base args ds gs before hval0 hW hcnd _
  have hval : ∀ (j : Nat) t v, Try.f3.params[j]? = some t → args[j]? = some v → Value.okWide Try.prog W .any base t v := hval0
  have hW' := hW
  obtain ⟨p, q, hA0, hV, rfl, hfz, hnd⟩ := hW
  have hA : DataW.TrodAll enc Try.prog W 0 (fun _ => true) true Try.f3.params.toList args.toList ds p := hA0
  rw [Try.params3] at hA hval
  obtain ⟨v0, d0, rfl, rfl, h0⟩ := trodAll_one hA
  obtain ⟨rfl, rfl⟩ := trodVars_none hV
  obtain ⟨a0, len0, cap0, rfl⟩ := okWide_slice Try.underlying22 (hval 0 22 v0 rfl rfl)
  have k0 := h0
  have lt0 : ∀ x ∈ p, x.block < W.heap.size := by obtain ⟨m, hm⟩ := k0; exact DataW.trod_lt m _ _ _ hm
  have w0 : EventsAt W a0 len0 := by obtain ⟨fuel, hf⟩ := h0; exact events_open (by simpa [Value.cells] using hf)
  clear hA0 hval0
  refine (safe3 a0 len0 cap0 W w0).mono fun e W' ⟨he, bel⟩ => ?_
  subst he
  exact ⟨_, rfl, _, _, _, [], _, [], hW', trodAll_mk1 (shut_bool Try.underlying4 _), trodAll_mk1 (Below.trod laidOut_ (by kernel_rfl) (of_decide_eq_true (by kernel_rfl)) k0 bel lt0), rfl, bel.frame _, fun h => by cases h⟩

theorem raftcoreSafe_holds : Rows.RaftcoreSafeSaid :=
  OpenClaim.holds_of_wide 3 Try.f3 rfl rfl rfl rfl rfl rfl rfl ⟨rfl, rfl, rfl, rfl, rfl⟩ rfl rfl rfl rfl rfl (by kernel_rfl) Try.func3 (by kernel_rfl)
    (of_decide_eq_true (by kernel_rfl)) (by unfold Func.isWrapper; first | (rw [if_pos (by decide +kernel)]; kernel_rfl) | (rw [if_neg (by decide +kernel)]; exact ⟨rfl, rfl⟩))
    (fun os started H enc _ => lifted_ os started H enc)
#print axioms raftcoreSafe_holds
end Go.Proofs.Ytibkmhacpodceaa
