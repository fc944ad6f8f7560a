/- Walks: numbers, lists of nodes, slices.Index, Contains, Clone, Clip. -/
import Derived.Test.YtibkmhacpodceaaRows
import Derived.Test.YtibkmhacpodceaaRep
import Derived.Deep.QuietTactic
import Derived.BigQuiet
import Derived.Lib.Hide
namespace Go.Proofs.Ytibkmhacpodceaa
open Go.RowKit

theorem ret_bool {a b : Bool} (h : a = b) : Ending.returned (.bool a) = .returned (.bool b) := by rw [h]
theorem ret_int {k : IntKind} {a b : Int} (h : a = b) : Ending.returned (.int k a) = .returned (.int k b) := by rw [h]

set_option maxHeartbeats 400000 in
theorem node29 (n : Int) (w : World) :
    Calls Try.prog 29 #[.int .i64 n] w fun e w' => e = .returned (.bool (okNode n)) ∧ w' = w := by
  go_enter Try.func29, Try.ntmps29
  go_wp2
  all_goals
    go_ret
    refine ⟨ret_bool ?_, rfl⟩
    unfold okNode
    simp
    try omega

set_option maxHeartbeats 400000 in
theorem node81 (n : Int) (w : World) :
    Calls Try.prog 81 #[.int .i64 n] w fun e w' => e = .returned (.bool (okNode n)) ∧ w' = w := by
  go_enter Try.func81, Try.ntmps81
  go_wp2
  all_goals
    go_ret
    refine ⟨ret_bool ?_, rfl⟩
    unfold okNode
    simp
    try omega

set_option maxHeartbeats 400000 in
theorem count30 (n : Int) (w : World) :
    Calls Try.prog 30 #[.int .i64 n] w fun e w' => e = .returned (.bool (okCount n)) ∧ w' = w := by
  go_enter Try.func30, Try.ntmps30
  go_wp2
  all_goals
    go_ret
    refine ⟨ret_bool ?_, rfl⟩
    unfold okCount
    simp
    try omega

def FoundAt (x : Int) (l : List Int) (w : World) (e : Ending) (w' : World) : Prop := ∃ n : Int, e = .returned (.int .i64 n) ∧ decide (0 ≤ n) = decide (x ∈ l) ∧ w' = w

theorem mem_take_succ {x : Int} {l : List Int} {k : Nat} (h : k < l.length) : x ∈ l.take (k + 1) ↔ x ∈ l.take k ∨ x = l[k] := by
  rw [List.take_succ_eq_append_getElem h, List.mem_append, List.mem_singleton]

set_option maxHeartbeats 400000 in
theorem index58 (v : Value) (l : List Int) (x : Int) (B : Nat → Prop) (w : World) (h : IntsAt B w v l) (hl : l.length ≤ 30000) :
    Calls Try.prog 58 #[v, .int .i64 x] w (FoundAt x l w) := by
  obtain ⟨A, c, rfl, hc⟩ := h.form
  go_enter Try.func58, Try.ntmps58
  go_wp2
  go_loop [8] (fun i => ∃ k : Nat, k ≤ l.length ∧ i = .int .i64 k ∧ x ∉ l.take k) (fun i => l.length - (intOf i).toNat)
  case atStart => exact ⟨0, Nat.zero_le _, rfl, by simp⟩
  case round =>
    obtain ⟨k, hk, rfl, hx⟩ := hrel
    by_cases hlt : k < l.length
    · obtain ⟨g, off, rfl, hg, hcell⟩ := IntsAt.at_ h k hlt
      have hmem : l[k] ∈ l := List.getElem_mem hlt
      have hts := mem_take_succ (x := x) hlt
      generalize hy : l[k] = y at *
      by_cases he : x = y
      · have hb : (x == y) = true := by simpa using he
        clear hts hy
        go_wp2
        go_ret
        exact ⟨k, rfl, by simp [hmem], rfl⟩
      · have hb : (x == y) = false := by simpa using he
        have HX : Hid (x ∉ l.take (k + 1)) := by intro hm; rcases hts.1 hm with hm | hm; exact hx hm; exact he hm
        clear hts hy hx he hmem
        go_wp2
        go_round
        case rel => exact ⟨k + 1, by omega, by go_num, HX⟩
        case measure => simp [intOf]; omega
    · have hn : x ∉ l := by rwa [List.take_of_length_le (by omega)] at hx
      clear hx
      have HN : Hid (x ∉ l) := hn
      clear hn
      go_wp2
      go_ret
      exact ⟨-1, rfl, by have := HN.out; simp [this], rfl⟩

set_option maxHeartbeats 400000 in
theorem contains35 (v : Value) (l : List Int) (x : Int) (B : Nat → Prop) (w : World) (h : IntsAt B w v l) (hl : l.length ≤ 30000) :
    Calls Try.prog 35 #[v, .int .i64 x] w fun e w' => e = .returned (.bool (decide (x ∈ l))) ∧ w' = w := by
  go_enter Try.func35, Try.ntmps35
  go_wp2_with fail
  refine (index58 v l x B w h hl).mono ?_
  rintro e w' ⟨n, rfl, hn, rfl⟩
  have HN : Hid (decide (0 ≤ n) = decide (x ∈ l)) := hn
  clear hn
  go_wp2
  go_ret
  exact ⟨ret_bool HN.out, rfl⟩


set_option maxHeartbeats 400000 in
theorem count86 (n : Int) (w : World) :
    Calls Try.prog 86 #[.int .i64 n] w fun e w' => e = .returned (.bool (okCount n)) ∧ w' = w := by
  go_enter Try.func86, Try.ntmps86
  go_wp2
  all_goals
    go_ret
    refine ⟨ret_bool ?_, rfl⟩
    unfold okCount
    simp
    try omega

set_option maxHeartbeats 400000 in
theorem count80 (n : Int) (w : World) :
    Calls Try.prog 80 #[.int .i64 n] w fun e w' => e = .returned (.bool (okCount n)) ∧ w' = w := by
  go_enter Try.func80, Try.ntmps80
  go_wp2
  all_goals
    go_ret
    refine ⟨ret_bool ?_, rfl⟩
    unfold okCount
    simp
    try omega

/-- what the loop of 'members' knows behind k of them -/
def RisingTo (l : List Int) (k : Nat) (last : Int) : Prop := risingB 0 l = risingB last (l.drop k)

theorem risingTo_step {l : List Int} {k : Nat} {last : Int} (h : RisingTo l k last) (hk : k < l.length) (h1 : last < l[k]) (h2 : l[k] ≤ 5) : RisingTo l (k + 1) l[k] := by
  unfold RisingTo at h ⊢
  rw [h, List.drop_eq_getElem_cons hk, risingB]
  simp [h1, h2]
theorem risingTo_bad {l : List Int} {k : Nat} {last : Int} (h : RisingTo l k last) (hk : k < l.length) (hb : ¬ (last < l[k] ∧ l[k] ≤ 5)) : risingB 0 l = false := by
  unfold RisingTo at h
  rw [h, List.drop_eq_getElem_cons hk, risingB]
  simp only [hb, decide_false, Bool.false_and]
theorem risingTo_end {l : List Int} {last : Int} (h : RisingTo l l.length last) : risingB 0 l = true := by
  unfold RisingTo at h
  rw [h, List.drop_length, risingB]

set_option maxHeartbeats 400000 in
theorem members26 (v : Value) (l : List Int) (B : Nat → Prop) (w : World) (h : IntsAt B w v l) (hl : l.length ≤ 30000) :
    Calls Try.prog 26 #[v] w fun e w' => e = .returned (.bool (membersB l)) ∧ w' = w := by
  obtain ⟨A, c, rfl, hc⟩ := h.form
  by_cases h0 : l.length = 0
  · have hb0 : ((l.length : Int) == 0) = true := by simpa using h0
    have HF : Hid (membersB l = false) := by unfold Hid membersB; simp [h0]
    clear h0
    go_enter Try.func26, Try.ntmps26
    go_wp2
    go_ret
    exact ⟨ret_bool HF.out.symm, rfl⟩
  · have hb0 : ((l.length : Int) == 0) = false := by rw [beq_eq_false_iff_ne]; omega
    by_cases h5 : 5 < l.length
    · have HF : Hid (membersB l = false) := by unfold Hid membersB; simp; omega
      clear h0
      go_enter Try.func26, Try.ntmps26
      go_wp2
      go_ret
      exact ⟨ret_bool HF.out.symm, rfl⟩
    · have HL : Hid (0 < l.length ∧ l.length ≤ 5) := ⟨by omega, by omega⟩
      clear h0
      go_enter Try.func26, Try.ntmps26
      go_wp2
      go_loop [3, 16] (fun last i => ∃ (k : Nat) (n : Int), k ≤ l.length ∧ i = .int .i64 k ∧ last = .int .i64 n ∧ Hid (RisingTo l k n)) (fun _ i => l.length - (intOf i).toNat)
      case atStart => exact ⟨0, 0, Nat.zero_le _, rfl, rfl, rfl⟩
      case round =>
        obtain ⟨k, n, hk, rfl, rfl, hR⟩ := hrel
        by_cases hlt : k < l.length
        · obtain ⟨g, off, rfl, hg, hcell⟩ := IntsAt.at_ h k hlt
          by_cases hbad : n < l[k] ∧ l[k] ≤ 5
          · have HS : Hid (RisingTo l (k + 1) l[k]) := risingTo_step hR.out hlt hbad.1 hbad.2
            obtain ⟨hb1, hb2⟩ := hbad
            generalize l[k] = y at *
            go_wp2
            go_round
            case rel => exact ⟨k + 1, y, by omega, by go_num, rfl, HS⟩
            case measure => simp [intOf]; omega
          · have HS : Hid (membersB l = false) := by unfold Hid membersB; rw [risingTo_bad hR.out hlt hbad]; simp
            by_cases hy : n < l[k]
            · have hy2 : 5 < l[k] := by omega
              clear hbad
              generalize l[k] = y at *
              go_wp2
              go_ret
              exact ⟨ret_bool HS.out.symm, rfl⟩
            · clear hbad
              generalize l[k] = y at *
              go_wp2
              go_ret
              exact ⟨ret_bool HS.out.symm, rfl⟩
        · obtain rfl : k = l.length := by omega
          have HS : Hid (membersB l = true) := by unfold Hid membersB; rw [risingTo_end hR.out]; simp [HL.out.2]; exact HL.out.1
          go_wp2
          go_ret
          exact ⟨ret_bool HS.out.symm, rfl⟩

end Go.Proofs.Ytibkmhacpodceaa
