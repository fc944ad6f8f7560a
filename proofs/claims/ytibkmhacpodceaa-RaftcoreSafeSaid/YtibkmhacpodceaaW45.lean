/- Walks: play: a message's delivery. -/
import Derived.Test.YtibkmhacpodceaaW44
namespace Go.Proofs.Ytibkmhacpodceaa
open Go.RowKit

theorem MsgsAt.at? {B B2 : Nat → Prop} {w : World} {A : Option Addr} {n c : Nat} {l : List Msg} {x : Msg} (h : SliceOf 12 (MsgR B2 w) B w (.slice A n c) l) {i : Nat} (hx : l[i]? = some x) :
    ∃ g off A1 n1 c1 A2 n2 c2 A3 n3 c3, A = some ⟨g, off, none⟩ ∧ g < w.heap.size ∧ (∀ j, j < 12 → w.cell? ⟨g, off + i * 12 + j, none⟩ = (msgCells x (.slice A1 n1 c1) (.slice A2 n2 c2) (.slice A3 n3 c3))[j]?) ∧
      EntsAt B2 B2 w (.slice A1 n1 c1) x.entries ∧ IntsAt B2 w (.slice A2 n2 c2) x.members ∧ BytesAt B2 w (.slice A3 n3 c3) x.data := by
  obtain ⟨hi, rfl⟩ := List.getElem?_eq_some_iff.1 hx
  obtain ⟨g, off, cs, rfl, _, hg, hR, hl, hc⟩ := SliceOf.at_ h i hi
  obtain ⟨A1, n1, c1, A2, n2, c2, A3, n3, c3, rfl, h1, h2, h3⟩ := hR
  refine ⟨g, off, A1, n1, c1, A2, n2, c2, A3, n3, c3, rfl, hg, fun j hj => ?_, h1, h2, h3⟩
  exact (hc j _ (List.getElem?_eq_getElem (by simpa [msgCells] using hj))).trans (List.getElem?_eq_getElem (by simpa [msgCells] using hj)).symm

set_option maxRecDepth 100000 in
set_option maxHeartbeats 8000000 in
theorem play6_step (o : Own) (wb : Nat) (W : WorldM) (d1 d2 : Int) (w : World) (h : WorldAt o w wb W) (hr : Ready W) (hw : Wf o w) :
    Calls Try.prog 6 #[.pointer (some ⟨wb, 0, none⟩), .agg #[.int .i64 1, .int .i64 d1, .int .i64 d2]] w (PlayIs o wb W w) := by
  have HR := Lib.hid hr
  obtain ⟨p, vs, vc, vl, hin⟩ := h.in_
  have HI := Lib.hid hin
  clear h hr hin
  have HBA : Hid (Below w.heap.size w (w.alloc (.cells #[.int .i64 1, .int .i64 d1, .int .i64 d2] 28))) := (Below.refl _ _).alloc (Nat.le_refl _) _
  have HB0 := Lib.hid (Blk.new w 28 [.int .i64 1, .int .i64 d1, .int .i64 d2])
  obtain ⟨q, hq3, hqe⟩ := bits_and3 d1
  go_enter Try.func6, Try.ntmps6
  go_upto_if 21 with (fail)
  go_cut [5] (fun s wx => ∃ k : Nat, 1 ≤ k ∧ k ≤ 5 ∧ s = .int .i64 k ∧ Hid (Below w.heap.size w wx ∧ Blk wx w.heap.size 28 [.int .i64 1, .int .i64 d1, .int .i64 d2]))
  case first =>
    cases hb4 : (bits .and .i64 d1 4 != 0)
    · go_wp2_with fail
      go_meet
      exact ⟨1 + q, by omega, by omega, by go_num, HBA.out, HB0.out⟩
    · go_wp2_with fail
      go_meet
      exact ⟨5, by omega, by omega, rfl, HBA.out, HB0.out⟩
  case rest =>
    obtain ⟨k, hk1, hk5, rfl, HX⟩ := hcut
    have HC : Hid (WorldIn o wc wb W p vs vc vl ∧ Ext Owners o o w wc ∧ Blk wc w.heap.size 28 [.int .i64 1, .int .i64 d1, .int .i64 d2]) := ⟨HI.out.below hw HX.out.1, Ext.of_below HX.out.1 hw, HX.out.2⟩
    have HWC : Hid (Wf o wc) := HC.out.2.1.wf hw
    clear hqe HBA HB0 HX HI
    have kd := HC.out.2.2.cells
    have hld := HC.out.2.2.lt
    have kn : wc.cell? ⟨wb, k, none⟩ = some (.pointer (some ⟨p k, 0, none⟩)) := by rw [HC.out.1.blk.cells]; exact worldCells_at p _ _ _ k hk1 hk5
    have hlw := HC.out.1.blk.lt
    go_upto_block 0 with (fail)
    go_cut [5, 7] (fun s5 s7 wx => Hid (PlayMid o wb W w s5 s7 wx))
    case first =>
      have hlen : W.sent.length ≤ 100000 := by have := HR.out.len 1 _ (by omega) (by omega) .same; omega
      obtain ⟨As, cs, hvs, hcs⟩ := HC.out.1.sent.form
      obtain ⟨N, hN⟩ : ∃ N, N = W.sent.length := ⟨_, rfl⟩
      rw [← hN] at hvs hlen
      have HN := Lib.hid hN
      subst hvs
      have kv : wc.cell? ⟨wb, 6, none⟩ = some (.slice As N cs) := by rw [HC.out.1.blk.cells]; rfl
      clear hN hcs
      by_cases hd : d2 < 0
      · go_upto_region 11 with (fail)
        -- BLOCK sa
        have hS : (fun w' : World => (∀ i, w'.cell? ⟨w.heap.size, i, none⟩ = [Value.int .i64 1, .int .i64 d1, .int .i64 d2][i]?) ∧ w'.cell? ⟨wb, 6, none⟩ = some (.slice As N cs)) wc.drew := ⟨kd, kv⟩
        refine wp_region_T 12 (fun w' : World => (∀ i, w'.cell? ⟨w.heap.size, i, none⟩ = [Value.int .i64 1, .int .i64 d1, .int .i64 d2][i]?) ∧ w'.cell? ⟨wb, 6, none⟩ = some (.slice As N cs)) (by kernel_rfl) ?_
        refine anyT_takeL (i := 0) (v := ?va0) rfl (by kernel_rfl) (by kernel_rfl) (by kernel_rfl) (by kernel_rfl) (by kernel_rfl) (fun _ _ _ h => h) (Or.inl ⟨by rfl, fun wS hSw => ?hya0⟩) hS ?rea0
        case hya0 => (dsimp only at hSw; obtain ⟨hS1, hS2⟩ := hSw; go_simp; try with_reducible rfl)
        try simp only [Act.put, List.setIfInBounds_toArray, List.set_cons_zero, List.set_cons_succ]
        refine anyT_takeL (i := 1) (v := ?va1) rfl (by kernel_rfl) (by kernel_rfl) (by kernel_rfl) (by kernel_rfl) (by kernel_rfl) (fun _ _ _ h => h) (Or.inl ⟨by rfl, fun wS hSw => ?hya1⟩) hS ?rea1
        case hya1 => (dsimp only at hSw; obtain ⟨hS1, hS2⟩ := hSw; go_simp; try with_reducible rfl)
        try simp only [Act.put, List.setIfInBounds_toArray, List.set_cons_zero, List.set_cons_succ]
        refine anyT_takeL (i := 2) (v := ?va2) rfl (by kernel_rfl) (by kernel_rfl) (by kernel_rfl) (by kernel_rfl) (by kernel_rfl) (fun _ _ _ h => h) (Or.inl ⟨by rfl, fun wS hSw => ?hya2⟩) hS ?rea2
        case hya2 => (dsimp only at hSw; obtain ⟨hS1, hS2⟩ := hSw; go_simp; try with_reducible rfl)
        try simp only [Act.put, List.setIfInBounds_toArray, List.set_cons_zero, List.set_cons_succ]
        refine anyT_takeL (i := 3) (v := ?va3) rfl (by kernel_rfl) (by kernel_rfl) (by kernel_rfl) (by kernel_rfl) (by kernel_rfl) (fun _ _ _ h => h) (Or.inl ⟨by rfl, fun wS hSw => ?hya3⟩) hS ?rea3
        case hya3 => (dsimp only at hSw; obtain ⟨hS1, hS2⟩ := hSw; go_simp; try with_reducible rfl)
        try simp only [Act.put, List.setIfInBounds_toArray, List.set_cons_zero, List.set_cons_succ]
        refine anyT_takeL (i := 4) (v := undef) rfl (by kernel_rfl) (by kernel_rfl) (by kernel_rfl) (by kernel_rfl) (by kernel_rfl) (fun _ _ _ h => h) (Or.inr ⟨by rfl, rfl⟩) hS ?rea4
        try simp only [Act.put, List.setIfInBounds_toArray, List.set_cons_zero, List.set_cons_succ]
        refine anyT_takeL (i := 5) (v := undef) rfl (by kernel_rfl) (by kernel_rfl) (by kernel_rfl) (by kernel_rfl) (by kernel_rfl) (fun _ _ _ h => h) (Or.inr ⟨by rfl, rfl⟩) hS ?rea5
        try simp only [Act.put, List.setIfInBounds_toArray, List.set_cons_zero, List.set_cons_succ]
        refine anyT_takeL (i := 6) (v := undef) rfl (by kernel_rfl) (by kernel_rfl) (by kernel_rfl) (by kernel_rfl) (by kernel_rfl) (fun _ _ _ h => h) (Or.inr ⟨by rfl, rfl⟩) hS ?rea6
        try simp only [Act.put, List.setIfInBounds_toArray, List.set_cons_zero, List.set_cons_succ]
        refine anyT_takeL (i := 7) (v := undef) rfl (by kernel_rfl) (by kernel_rfl) (by kernel_rfl) (by kernel_rfl) (by kernel_rfl) (fun _ _ _ h => h) (Or.inr ⟨by rfl, rfl⟩) hS ?rea7
        try simp only [Act.put, List.setIfInBounds_toArray, List.set_cons_zero, List.set_cons_succ]
        refine anyT_takeL (i := 8) (v := undef) rfl (by kernel_rfl) (by kernel_rfl) (by kernel_rfl) (by kernel_rfl) (by kernel_rfl) (fun _ _ _ h => h) (Or.inr ⟨by rfl, rfl⟩) hS ?rea8
        try simp only [Act.put, List.setIfInBounds_toArray, List.set_cons_zero, List.set_cons_succ]
        refine anyT_takeL (i := 9) (v := undef) rfl (by kernel_rfl) (by kernel_rfl) (by kernel_rfl) (by kernel_rfl) (by kernel_rfl) (fun _ _ _ h => h) (Or.inr ⟨by rfl, rfl⟩) hS ?rea9
        try simp only [Act.put, List.setIfInBounds_toArray, List.set_cons_zero, List.set_cons_succ]
        refine anyT_takeL (i := 10) (v := undef) rfl (by kernel_rfl) (by kernel_rfl) (by kernel_rfl) (by kernel_rfl) (by kernel_rfl) (fun _ _ _ h => h) (Or.inr ⟨by rfl, rfl⟩) hS ?rea10
        try simp only [Act.put, List.setIfInBounds_toArray, List.set_cons_zero, List.set_cons_succ]
        refine anyT_takeL (i := 11) (v := undef) rfl (by kernel_rfl) (by kernel_rfl) (by kernel_rfl) (by kernel_rfl) (by kernel_rfl) (fun _ _ _ h => h) (Or.inr ⟨by rfl, rfl⟩) hS ?rea11
        try simp only [Act.put, List.setIfInBounds_toArray, List.set_cons_zero, List.set_cons_succ]
        refine anyT_oneL (i := 12) rfl (by kernel_rfl) ?_
        intro K hK
        go_simp
        try dsimp only
        refine hK _ _ (.inl rfl) ?_
        clear hK K hS
        try simp only [Act.put, List.setIfInBounds_toArray, List.set_cons_zero, List.set_cons_succ]
        refine anyT_done (by kernel_rfl) ?_ _
        try clear hS
        -- END
        go_wp2
        go_ret
        exact ⟨0, o, rfl, HC.out.2.1.drew, .inl ⟨rfl, HC.out.1.drew.at_⟩⟩
      · obtain ⟨n, rfl⟩ := Int.eq_ofNat_of_zero_le (show 0 ≤ d2 by omega)
        by_cases hn : N ≤ n
        · go_upto_region 11 with (fail)
          -- BLOCK sb
          have hS : (fun w' : World => (∀ i, w'.cell? ⟨w.heap.size, i, none⟩ = [Value.int .i64 1, .int .i64 d1, .int .i64 (n : Int)][i]?) ∧ w'.cell? ⟨wb, 6, none⟩ = some (.slice As N cs)) wc.drew := ⟨kd, kv⟩
          refine wp_region_T 12 (fun w' : World => (∀ i, w'.cell? ⟨w.heap.size, i, none⟩ = [Value.int .i64 1, .int .i64 d1, .int .i64 (n : Int)][i]?) ∧ w'.cell? ⟨wb, 6, none⟩ = some (.slice As N cs)) (by kernel_rfl) ?_
          refine anyT_takeL (i := 0) (v := ?vb0) rfl (by kernel_rfl) (by kernel_rfl) (by kernel_rfl) (by kernel_rfl) (by kernel_rfl) (fun _ _ _ h => h) (Or.inl ⟨by rfl, fun wS hSw => ?hyb0⟩) hS ?reb0
          case hyb0 => (dsimp only at hSw; obtain ⟨hS1, hS2⟩ := hSw; go_simp; try with_reducible rfl)
          try simp only [Act.put, List.setIfInBounds_toArray, List.set_cons_zero, List.set_cons_succ]
          refine anyT_takeL (i := 1) (v := ?vb1) rfl (by kernel_rfl) (by kernel_rfl) (by kernel_rfl) (by kernel_rfl) (by kernel_rfl) (fun _ _ _ h => h) (Or.inl ⟨by rfl, fun wS hSw => ?hyb1⟩) hS ?reb1
          case hyb1 => (dsimp only at hSw; obtain ⟨hS1, hS2⟩ := hSw; go_simp; try with_reducible rfl)
          try simp only [Act.put, List.setIfInBounds_toArray, List.set_cons_zero, List.set_cons_succ]
          refine anyT_takeL (i := 2) (v := ?vb2) rfl (by kernel_rfl) (by kernel_rfl) (by kernel_rfl) (by kernel_rfl) (by kernel_rfl) (fun _ _ _ h => h) (Or.inl ⟨by rfl, fun wS hSw => ?hyb2⟩) hS ?reb2
          case hyb2 => (dsimp only at hSw; obtain ⟨hS1, hS2⟩ := hSw; go_simp; try with_reducible rfl)
          try simp only [Act.put, List.setIfInBounds_toArray, List.set_cons_zero, List.set_cons_succ]
          refine anyT_takeL (i := 3) (v := ?vb3) rfl (by kernel_rfl) (by kernel_rfl) (by kernel_rfl) (by kernel_rfl) (by kernel_rfl) (fun _ _ _ h => h) (Or.inl ⟨by rfl, fun wS hSw => ?hyb3⟩) hS ?reb3
          case hyb3 => (dsimp only at hSw; obtain ⟨hS1, hS2⟩ := hSw; go_simp; try with_reducible rfl)
          try simp only [Act.put, List.setIfInBounds_toArray, List.set_cons_zero, List.set_cons_succ]
          refine anyT_takeL (i := 4) (v := ?vb4) rfl (by kernel_rfl) (by kernel_rfl) (by kernel_rfl) (by kernel_rfl) (by kernel_rfl) (fun _ _ _ h => h) (Or.inl ⟨by rfl, fun wS hSw => ?hyb4⟩) hS ?reb4
          case hyb4 => (dsimp only at hSw; obtain ⟨hS1, hS2⟩ := hSw; go_simp; try with_reducible rfl)
          try simp only [Act.put, List.setIfInBounds_toArray, List.set_cons_zero, List.set_cons_succ]
          refine anyT_takeL (i := 5) (v := ?vb5) rfl (by kernel_rfl) (by kernel_rfl) (by kernel_rfl) (by kernel_rfl) (by kernel_rfl) (fun _ _ _ h => h) (Or.inl ⟨by rfl, fun wS hSw => ?hyb5⟩) hS ?reb5
          case hyb5 => (dsimp only at hSw; obtain ⟨hS1, hS2⟩ := hSw; go_simp; try with_reducible rfl)
          try simp only [Act.put, List.setIfInBounds_toArray, List.set_cons_zero, List.set_cons_succ]
          refine anyT_takeL (i := 6) (v := ?vb6) rfl (by kernel_rfl) (by kernel_rfl) (by kernel_rfl) (by kernel_rfl) (by kernel_rfl) (fun _ _ _ h => h) (Or.inl ⟨by rfl, fun wS hSw => ?hyb6⟩) hS ?reb6
          case hyb6 => (dsimp only at hSw; obtain ⟨hS1, hS2⟩ := hSw; go_simp; try with_reducible rfl)
          try simp only [Act.put, List.setIfInBounds_toArray, List.set_cons_zero, List.set_cons_succ]
          refine anyT_takeL (i := 7) (v := ?vb7) rfl (by kernel_rfl) (by kernel_rfl) (by kernel_rfl) (by kernel_rfl) (by kernel_rfl) (fun _ _ _ h => h) (Or.inl ⟨by rfl, fun wS hSw => ?hyb7⟩) hS ?reb7
          case hyb7 => (dsimp only at hSw; obtain ⟨hS1, hS2⟩ := hSw; go_simp; try with_reducible rfl)
          try simp only [Act.put, List.setIfInBounds_toArray, List.set_cons_zero, List.set_cons_succ]
          refine anyT_takeL (i := 8) (v := ?vb8) rfl (by kernel_rfl) (by kernel_rfl) (by kernel_rfl) (by kernel_rfl) (by kernel_rfl) (fun _ _ _ h => h) (Or.inl ⟨by rfl, fun wS hSw => ?hyb8⟩) hS ?reb8
          case hyb8 => (dsimp only at hSw; obtain ⟨hS1, hS2⟩ := hSw; go_simp; try with_reducible rfl)
          try simp only [Act.put, List.setIfInBounds_toArray, List.set_cons_zero, List.set_cons_succ]
          refine anyT_takeL (i := 9) (v := ?vb9) rfl (by kernel_rfl) (by kernel_rfl) (by kernel_rfl) (by kernel_rfl) (by kernel_rfl) (fun _ _ _ h => h) (Or.inl ⟨by rfl, fun wS hSw => ?hyb9⟩) hS ?reb9
          case hyb9 => (dsimp only at hSw; obtain ⟨hS1, hS2⟩ := hSw; go_simp; try with_reducible rfl)
          try simp only [Act.put, List.setIfInBounds_toArray, List.set_cons_zero, List.set_cons_succ]
          refine anyT_takeL (i := 10) (v := ?vb10) rfl (by kernel_rfl) (by kernel_rfl) (by kernel_rfl) (by kernel_rfl) (by kernel_rfl) (fun _ _ _ h => h) (Or.inl ⟨by rfl, fun wS hSw => ?hyb10⟩) hS ?reb10
          case hyb10 => (dsimp only at hSw; obtain ⟨hS1, hS2⟩ := hSw; go_simp; try with_reducible rfl)
          try simp only [Act.put, List.setIfInBounds_toArray, List.set_cons_zero, List.set_cons_succ]
          refine anyT_takeL (i := 11) (v := ?vb11) rfl (by kernel_rfl) (by kernel_rfl) (by kernel_rfl) (by kernel_rfl) (by kernel_rfl) (fun _ _ _ h => h) (Or.inl ⟨by rfl, fun wS hSw => ?hyb11⟩) hS ?reb11
          case hyb11 => (dsimp only at hSw; obtain ⟨hS1, hS2⟩ := hSw; go_simp; try with_reducible rfl)
          try simp only [Act.put, List.setIfInBounds_toArray, List.set_cons_zero, List.set_cons_succ]
          refine anyT_oneL (i := 12) rfl (by kernel_rfl) ?_
          intro K hK
          go_simp
          try dsimp only
          refine hK _ _ (.inl rfl) ?_
          clear hK K hS
          try simp only [Act.put, List.setIfInBounds_toArray, List.set_cons_zero, List.set_cons_succ]
          refine anyT_done (by kernel_rfl) ?_ _
          try clear hS
          -- END
          go_wp2
          go_ret
          exact ⟨0, o, rfl, HC.out.2.1.drew, .inl ⟨rfl, HC.out.1.drew.at_⟩⟩
        · obtain ⟨m, hm⟩ : ∃ m, W.sent[n]? = some m := ⟨_, List.getElem?_eq_getElem (by have := HN.out; omega)⟩
          have HM := Lib.hid (And.intro (List.mem_of_getElem? hm) (HR.out.msg m (List.mem_of_getElem? hm)))
          obtain ⟨g, off, A, a, c, A2, n2, c2, A3, n3, c3, rfl, hlg, hcell, hE, hI, hD⟩ := MsgsAt.at? HC.out.1.sent.slice hm
          have HMD := Lib.hid (And.intro hE (And.intro hI hD))
          clear hE hI hD hm
          obtain ⟨mk, mg, mf, mt, mT, mi, ml, mc, mo, me, mm, md⟩ := m
          have ht1 : 1 ≤ mt := HM.out.2.2.2.2.2.1
          have ht5 : mt ≤ 5 := HM.out.2.2.2.2.2.2
          obtain ⟨t, rfl⟩ := Int.eq_ofNat_of_zero_le (show 0 ≤ mt by omega)
          have htn1 : 1 ≤ t := by omega
          have htn5 : t ≤ 5 := by omega
          have ht6 : (t : Int) < 6 := by omega
          unfold msgCells at hcell
          dsimp only at hcell
          have e0 : wc.cell? ⟨g, off + n * 12, none⟩ = some (.int .i64 mk) := hcell 0 (by decide)
          have e1 : wc.cell? ⟨g, off + n * 12 + 1, none⟩ = some (.int .i64 mg) := hcell 1 (by decide)
          have e2 : wc.cell? ⟨g, off + n * 12 + 2, none⟩ = some (.int .i64 mf) := hcell 2 (by decide)
          have e3 : wc.cell? ⟨g, off + n * 12 + 3, none⟩ = some (.int .i64 (t : Int)) := hcell 3 (by decide)
          have e4 : wc.cell? ⟨g, off + n * 12 + 4, none⟩ = some (.int .i64 mT) := hcell 4 (by decide)
          have e5 : wc.cell? ⟨g, off + n * 12 + 5, none⟩ = some (.int .i64 mi) := hcell 5 (by decide)
          have e6 : wc.cell? ⟨g, off + n * 12 + 6, none⟩ = some (.int .i64 ml) := hcell 6 (by decide)
          have e7 : wc.cell? ⟨g, off + n * 12 + 7, none⟩ = some (.int .i64 mc) := hcell 7 (by decide)
          have e8 : wc.cell? ⟨g, off + n * 12 + 8, none⟩ = some (.bool mo) := hcell 8 (by decide)
          have e9 : wc.cell? ⟨g, off + n * 12 + 9, none⟩ = some (.slice A a c) := hcell 9 (by decide)
          have e10 : wc.cell? ⟨g, off + n * 12 + 10, none⟩ = some (.slice A2 n2 c2) := hcell 10 (by decide)
          have e11 : wc.cell? ⟨g, off + n * 12 + 11, none⟩ = some (.slice A3 n3 c3) := hcell 11 (by decide)
          clear hcell
          have hnN : n < N := by omega
          clear hn
          go_upto_region 11 with (fail)
          -- BLOCK sc
          have hS : (fun w' : World => (∀ i, w'.cell? ⟨w.heap.size, i, none⟩ = [Value.int .i64 1, .int .i64 d1, .int .i64 (n : Int)][i]?) ∧ w'.cell? ⟨wb, 6, none⟩ = some (.slice (some ⟨g, off, none⟩) N cs)) wc.drew := ⟨kd, kv⟩
          refine wp_region_T 12 (fun w' : World => (∀ i, w'.cell? ⟨w.heap.size, i, none⟩ = [Value.int .i64 1, .int .i64 d1, .int .i64 (n : Int)][i]?) ∧ w'.cell? ⟨wb, 6, none⟩ = some (.slice (some ⟨g, off, none⟩) N cs)) (by kernel_rfl) ?_
          refine anyT_takeL (i := 0) (v := ?vc0) rfl (by kernel_rfl) (by kernel_rfl) (by kernel_rfl) (by kernel_rfl) (by kernel_rfl) (fun _ _ _ h => h) (Or.inl ⟨by rfl, fun wS hSw => ?hyc0⟩) hS ?rec0
          case hyc0 => (dsimp only at hSw; obtain ⟨hS1, hS2⟩ := hSw; go_simp; try with_reducible rfl)
          try simp only [Act.put, List.setIfInBounds_toArray, List.set_cons_zero, List.set_cons_succ]
          refine anyT_takeL (i := 1) (v := ?vc1) rfl (by kernel_rfl) (by kernel_rfl) (by kernel_rfl) (by kernel_rfl) (by kernel_rfl) (fun _ _ _ h => h) (Or.inl ⟨by rfl, fun wS hSw => ?hyc1⟩) hS ?rec1
          case hyc1 => (dsimp only at hSw; obtain ⟨hS1, hS2⟩ := hSw; go_simp; try with_reducible rfl)
          try simp only [Act.put, List.setIfInBounds_toArray, List.set_cons_zero, List.set_cons_succ]
          refine anyT_takeL (i := 2) (v := ?vc2) rfl (by kernel_rfl) (by kernel_rfl) (by kernel_rfl) (by kernel_rfl) (by kernel_rfl) (fun _ _ _ h => h) (Or.inl ⟨by rfl, fun wS hSw => ?hyc2⟩) hS ?rec2
          case hyc2 => (dsimp only at hSw; obtain ⟨hS1, hS2⟩ := hSw; go_simp; try with_reducible rfl)
          try simp only [Act.put, List.setIfInBounds_toArray, List.set_cons_zero, List.set_cons_succ]
          refine anyT_takeL (i := 3) (v := ?vc3) rfl (by kernel_rfl) (by kernel_rfl) (by kernel_rfl) (by kernel_rfl) (by kernel_rfl) (fun _ _ _ h => h) (Or.inl ⟨by rfl, fun wS hSw => ?hyc3⟩) hS ?rec3
          case hyc3 => (dsimp only at hSw; obtain ⟨hS1, hS2⟩ := hSw; go_simp; try with_reducible rfl)
          try simp only [Act.put, List.setIfInBounds_toArray, List.set_cons_zero, List.set_cons_succ]
          refine anyT_takeL (i := 4) (v := ?vc4) rfl (by kernel_rfl) (by kernel_rfl) (by kernel_rfl) (by kernel_rfl) (by kernel_rfl) (fun _ _ _ h => h) (Or.inl ⟨by rfl, fun wS hSw => ?hyc4⟩) hS ?rec4
          case hyc4 => (dsimp only at hSw; obtain ⟨hS1, hS2⟩ := hSw; go_simp; try with_reducible rfl)
          try simp only [Act.put, List.setIfInBounds_toArray, List.set_cons_zero, List.set_cons_succ]
          refine anyT_takeL (i := 5) (v := ?vc5) rfl (by kernel_rfl) (by kernel_rfl) (by kernel_rfl) (by kernel_rfl) (by kernel_rfl) (fun _ _ _ h => h) (Or.inl ⟨by rfl, fun wS hSw => ?hyc5⟩) hS ?rec5
          case hyc5 => (dsimp only at hSw; obtain ⟨hS1, hS2⟩ := hSw; go_simp; try with_reducible rfl)
          try simp only [Act.put, List.setIfInBounds_toArray, List.set_cons_zero, List.set_cons_succ]
          refine anyT_takeL (i := 6) (v := ?vc6) rfl (by kernel_rfl) (by kernel_rfl) (by kernel_rfl) (by kernel_rfl) (by kernel_rfl) (fun _ _ _ h => h) (Or.inl ⟨by rfl, fun wS hSw => ?hyc6⟩) hS ?rec6
          case hyc6 => (dsimp only at hSw; obtain ⟨hS1, hS2⟩ := hSw; go_simp; try with_reducible rfl)
          try simp only [Act.put, List.setIfInBounds_toArray, List.set_cons_zero, List.set_cons_succ]
          refine anyT_takeL (i := 7) (v := ?vc7) rfl (by kernel_rfl) (by kernel_rfl) (by kernel_rfl) (by kernel_rfl) (by kernel_rfl) (fun _ _ _ h => h) (Or.inl ⟨by rfl, fun wS hSw => ?hyc7⟩) hS ?rec7
          case hyc7 => (dsimp only at hSw; obtain ⟨hS1, hS2⟩ := hSw; go_simp; try with_reducible rfl)
          try simp only [Act.put, List.setIfInBounds_toArray, List.set_cons_zero, List.set_cons_succ]
          refine anyT_takeL (i := 8) (v := ?vc8) rfl (by kernel_rfl) (by kernel_rfl) (by kernel_rfl) (by kernel_rfl) (by kernel_rfl) (fun _ _ _ h => h) (Or.inl ⟨by rfl, fun wS hSw => ?hyc8⟩) hS ?rec8
          case hyc8 => (dsimp only at hSw; obtain ⟨hS1, hS2⟩ := hSw; go_simp; try with_reducible rfl)
          try simp only [Act.put, List.setIfInBounds_toArray, List.set_cons_zero, List.set_cons_succ]
          refine anyT_takeL (i := 9) (v := ?vc9) rfl (by kernel_rfl) (by kernel_rfl) (by kernel_rfl) (by kernel_rfl) (by kernel_rfl) (fun _ _ _ h => h) (Or.inl ⟨by rfl, fun wS hSw => ?hyc9⟩) hS ?rec9
          case hyc9 => (dsimp only at hSw; obtain ⟨hS1, hS2⟩ := hSw; go_simp; try with_reducible rfl)
          try simp only [Act.put, List.setIfInBounds_toArray, List.set_cons_zero, List.set_cons_succ]
          refine anyT_takeL (i := 10) (v := ?vc10) rfl (by kernel_rfl) (by kernel_rfl) (by kernel_rfl) (by kernel_rfl) (by kernel_rfl) (fun _ _ _ h => h) (Or.inl ⟨by rfl, fun wS hSw => ?hyc10⟩) hS ?rec10
          case hyc10 => (dsimp only at hSw; obtain ⟨hS1, hS2⟩ := hSw; go_simp; try with_reducible rfl)
          try simp only [Act.put, List.setIfInBounds_toArray, List.set_cons_zero, List.set_cons_succ]
          refine anyT_takeL (i := 11) (v := ?vc11) rfl (by kernel_rfl) (by kernel_rfl) (by kernel_rfl) (by kernel_rfl) (by kernel_rfl) (fun _ _ _ h => h) (Or.inl ⟨by rfl, fun wS hSw => ?hyc11⟩) hS ?rec11
          case hyc11 => (dsimp only at hSw; obtain ⟨hS1, hS2⟩ := hSw; go_simp; try with_reducible rfl)
          try simp only [Act.put, List.setIfInBounds_toArray, List.set_cons_zero, List.set_cons_succ]
          refine anyT_oneL (i := 12) rfl (by kernel_rfl) ?_
          intro K hK
          go_simp
          try dsimp only
          refine hK _ _ (.inl rfl) ?_
          clear hK K hS
          try simp only [Act.put, List.setIfInBounds_toArray, List.set_cons_zero, List.set_cons_succ]
          refine anyT_done (by kernel_rfl) ?_ _
          try clear hS
          -- END
          go_upto_region 13 with (fail)
          -- BLOCK sd
          have hS : (fun w' : World => (∀ i, w'.cell? ⟨w.heap.size, i, none⟩ = [Value.int .i64 1, .int .i64 d1, .int .i64 (n : Int)][i]?) ∧ w'.cell? ⟨wb, 6, none⟩ = some (.slice (some ⟨g, off, none⟩) N cs) ∧ w'.cell? ⟨g, off + n * 12, none⟩ = some (.int .i64 mk) ∧ w'.cell? ⟨g, off + n * 12 + 1, none⟩ = some (.int .i64 mg) ∧ w'.cell? ⟨g, off + n * 12 + 2, none⟩ = some (.int .i64 mf) ∧ w'.cell? ⟨g, off + n * 12 + 3, none⟩ = some (.int .i64 (t : Int)) ∧ w'.cell? ⟨g, off + n * 12 + 4, none⟩ = some (.int .i64 mT) ∧ w'.cell? ⟨g, off + n * 12 + 5, none⟩ = some (.int .i64 mi) ∧ w'.cell? ⟨g, off + n * 12 + 6, none⟩ = some (.int .i64 ml) ∧ w'.cell? ⟨g, off + n * 12 + 7, none⟩ = some (.int .i64 mc) ∧ w'.cell? ⟨g, off + n * 12 + 8, none⟩ = some (.bool mo) ∧ w'.cell? ⟨g, off + n * 12 + 9, none⟩ = some (.slice A a c) ∧ w'.cell? ⟨g, off + n * 12 + 10, none⟩ = some (.slice A2 n2 c2) ∧ w'.cell? ⟨g, off + n * 12 + 11, none⟩ = some (.slice A3 n3 c3)) wc.drew.drew := ⟨kd, kv, e0, e1, e2, e3, e4, e5, e6, e7, e8, e9, e10, e11⟩
          refine wp_region_T 9 (fun w' : World => (∀ i, w'.cell? ⟨w.heap.size, i, none⟩ = [Value.int .i64 1, .int .i64 d1, .int .i64 (n : Int)][i]?) ∧ w'.cell? ⟨wb, 6, none⟩ = some (.slice (some ⟨g, off, none⟩) N cs) ∧ w'.cell? ⟨g, off + n * 12, none⟩ = some (.int .i64 mk) ∧ w'.cell? ⟨g, off + n * 12 + 1, none⟩ = some (.int .i64 mg) ∧ w'.cell? ⟨g, off + n * 12 + 2, none⟩ = some (.int .i64 mf) ∧ w'.cell? ⟨g, off + n * 12 + 3, none⟩ = some (.int .i64 (t : Int)) ∧ w'.cell? ⟨g, off + n * 12 + 4, none⟩ = some (.int .i64 mT) ∧ w'.cell? ⟨g, off + n * 12 + 5, none⟩ = some (.int .i64 mi) ∧ w'.cell? ⟨g, off + n * 12 + 6, none⟩ = some (.int .i64 ml) ∧ w'.cell? ⟨g, off + n * 12 + 7, none⟩ = some (.int .i64 mc) ∧ w'.cell? ⟨g, off + n * 12 + 8, none⟩ = some (.bool mo) ∧ w'.cell? ⟨g, off + n * 12 + 9, none⟩ = some (.slice A a c) ∧ w'.cell? ⟨g, off + n * 12 + 10, none⟩ = some (.slice A2 n2 c2) ∧ w'.cell? ⟨g, off + n * 12 + 11, none⟩ = some (.slice A3 n3 c3)) (by kernel_rfl) ?_
          refine anyT_takeL (i := 0) (v := ?vd0) rfl (by kernel_rfl) (by kernel_rfl) (by kernel_rfl) (by kernel_rfl) (by kernel_rfl) (fun _ _ _ h => h) (Or.inl ⟨by rfl, fun wS hSw => ?hyd0⟩) hS ?red0
          case hyd0 => (dsimp only at hSw; obtain ⟨hS1, hS2, hS3, hS4, hS5, hS6, hS7, hS8, hS9, hS10, hS11, hS12, hS13, hS14⟩ := hSw; go_simp; try with_reducible rfl)
          try simp only [Act.put, List.setIfInBounds_toArray, List.set_cons_zero, List.set_cons_succ]
          refine anyT_takeL (i := 1) (v := ?vd1) rfl (by kernel_rfl) (by kernel_rfl) (by kernel_rfl) (by kernel_rfl) (by kernel_rfl) (fun _ _ _ h => h) (Or.inl ⟨by rfl, fun wS hSw => ?hyd1⟩) hS ?red1
          case hyd1 => (dsimp only at hSw; obtain ⟨hS1, hS2, hS3, hS4, hS5, hS6, hS7, hS8, hS9, hS10, hS11, hS12, hS13, hS14⟩ := hSw; go_simp; try with_reducible rfl)
          try simp only [Act.put, List.setIfInBounds_toArray, List.set_cons_zero, List.set_cons_succ]
          refine anyT_takeL (i := 2) (v := ?vd2) rfl (by kernel_rfl) (by kernel_rfl) (by kernel_rfl) (by kernel_rfl) (by kernel_rfl) (fun _ _ _ h => h) (Or.inl ⟨by rfl, fun wS hSw => ?hyd2⟩) hS ?red2
          case hyd2 => (dsimp only at hSw; obtain ⟨hS1, hS2, hS3, hS4, hS5, hS6, hS7, hS8, hS9, hS10, hS11, hS12, hS13, hS14⟩ := hSw; go_simp; try with_reducible rfl)
          try simp only [Act.put, List.setIfInBounds_toArray, List.set_cons_zero, List.set_cons_succ]
          refine anyT_takeL (i := 3) (v := ?vd3) rfl (by kernel_rfl) (by kernel_rfl) (by kernel_rfl) (by kernel_rfl) (by kernel_rfl) (fun _ _ _ h => h) (Or.inl ⟨by rfl, fun wS hSw => ?hyd3⟩) hS ?red3
          case hyd3 => (dsimp only at hSw; obtain ⟨hS1, hS2, hS3, hS4, hS5, hS6, hS7, hS8, hS9, hS10, hS11, hS12, hS13, hS14⟩ := hSw; go_simp; try with_reducible rfl)
          try simp only [Act.put, List.setIfInBounds_toArray, List.set_cons_zero, List.set_cons_succ]
          refine anyT_takeL (i := 4) (v := ?vd4) rfl (by kernel_rfl) (by kernel_rfl) (by kernel_rfl) (by kernel_rfl) (by kernel_rfl) (fun _ _ _ h => h) (Or.inl ⟨by rfl, fun wS hSw => ?hyd4⟩) hS ?red4
          case hyd4 => (dsimp only at hSw; obtain ⟨hS1, hS2, hS3, hS4, hS5, hS6, hS7, hS8, hS9, hS10, hS11, hS12, hS13, hS14⟩ := hSw; go_simp; try with_reducible rfl)
          try simp only [Act.put, List.setIfInBounds_toArray, List.set_cons_zero, List.set_cons_succ]
          refine anyT_takeL (i := 5) (v := ?vd5) rfl (by kernel_rfl) (by kernel_rfl) (by kernel_rfl) (by kernel_rfl) (by kernel_rfl) (fun _ _ _ h => h) (Or.inl ⟨by rfl, fun wS hSw => ?hyd5⟩) hS ?red5
          case hyd5 => (dsimp only at hSw; obtain ⟨hS1, hS2, hS3, hS4, hS5, hS6, hS7, hS8, hS9, hS10, hS11, hS12, hS13, hS14⟩ := hSw; go_simp; try with_reducible rfl)
          try simp only [Act.put, List.setIfInBounds_toArray, List.set_cons_zero, List.set_cons_succ]
          refine anyT_takeL (i := 6) (v := ?vd6) rfl (by kernel_rfl) (by kernel_rfl) (by kernel_rfl) (by kernel_rfl) (by kernel_rfl) (fun _ _ _ h => h) (Or.inl ⟨by rfl, fun wS hSw => ?hyd6⟩) hS ?red6
          case hyd6 => (dsimp only at hSw; obtain ⟨hS1, hS2, hS3, hS4, hS5, hS6, hS7, hS8, hS9, hS10, hS11, hS12, hS13, hS14⟩ := hSw; go_simp; try with_reducible rfl)
          try simp only [Act.put, List.setIfInBounds_toArray, List.set_cons_zero, List.set_cons_succ]
          refine anyT_takeL (i := 7) (v := ?vd7) rfl (by kernel_rfl) (by kernel_rfl) (by kernel_rfl) (by kernel_rfl) (by kernel_rfl) (fun _ _ _ h => h) (Or.inl ⟨by rfl, fun wS hSw => ?hyd7⟩) hS ?red7
          case hyd7 => (dsimp only at hSw; obtain ⟨hS1, hS2, hS3, hS4, hS5, hS6, hS7, hS8, hS9, hS10, hS11, hS12, hS13, hS14⟩ := hSw; go_simp; try with_reducible rfl)
          try simp only [Act.put, List.setIfInBounds_toArray, List.set_cons_zero, List.set_cons_succ]
          refine anyT_oneL (i := 8) rfl (by kernel_rfl) ?_
          intro K hK
          go_simp
          have hbz : Below wc.heap.size wc.drew.drew (wc.drew.drew.alloc (.cells #[.int .i64 0, .int .i64 0, .int .i64 0, .int .i64 0, .int .i64 0, .int .i64 0, .int .i64 0, .int .i64 0, .bool false, .slice none 0 0, .slice none 0 0, .slice none 0 0] 48)) := (Below.refl wc.heap.size wc.drew.drew).alloc (show wc.heap.size ≤ wc.drew.drew.heap.size from Nat.le_refl _) _
          try dsimp only
          clear hS
          have hS : (fun w' : World => (∀ i, w'.cell? ⟨w.heap.size, i, none⟩ = [Value.int .i64 1, .int .i64 d1, .int .i64 (n : Int)][i]?) ∧ w'.cell? ⟨wb, 6, none⟩ = some (.slice (some ⟨g, off, none⟩) N cs) ∧ w'.cell? ⟨g, off + n * 12, none⟩ = some (.int .i64 mk) ∧ w'.cell? ⟨g, off + n * 12 + 1, none⟩ = some (.int .i64 mg) ∧ w'.cell? ⟨g, off + n * 12 + 2, none⟩ = some (.int .i64 mf) ∧ w'.cell? ⟨g, off + n * 12 + 3, none⟩ = some (.int .i64 (t : Int)) ∧ w'.cell? ⟨g, off + n * 12 + 4, none⟩ = some (.int .i64 mT) ∧ w'.cell? ⟨g, off + n * 12 + 5, none⟩ = some (.int .i64 mi) ∧ w'.cell? ⟨g, off + n * 12 + 6, none⟩ = some (.int .i64 ml) ∧ w'.cell? ⟨g, off + n * 12 + 7, none⟩ = some (.int .i64 mc) ∧ w'.cell? ⟨g, off + n * 12 + 8, none⟩ = some (.bool mo) ∧ w'.cell? ⟨g, off + n * 12 + 9, none⟩ = some (.slice A a c) ∧ w'.cell? ⟨g, off + n * 12 + 10, none⟩ = some (.slice A2 n2 c2) ∧ w'.cell? ⟨g, off + n * 12 + 11, none⟩ = some (.slice A3 n3 c3)) (wc.drew.drew.alloc (.cells #[.int .i64 0, .int .i64 0, .int .i64 0, .int .i64 0, .int .i64 0, .int .i64 0, .int .i64 0, .int .i64 0, .bool false, .slice none 0 0, .slice none 0 0, .slice none 0 0] 48)) := ⟨fun i => (hbz.cell (p := ⟨w.heap.size, i, none⟩) hld).trans (kd i), (hbz.cell (p := ⟨wb, 6, none⟩) hlw).trans kv, (hbz.cell (p := ⟨g, off + n * 12, none⟩) hlg).trans e0, (hbz.cell (p := ⟨g, off + n * 12 + 1, none⟩) hlg).trans e1, (hbz.cell (p := ⟨g, off + n * 12 + 2, none⟩) hlg).trans e2, (hbz.cell (p := ⟨g, off + n * 12 + 3, none⟩) hlg).trans e3, (hbz.cell (p := ⟨g, off + n * 12 + 4, none⟩) hlg).trans e4, (hbz.cell (p := ⟨g, off + n * 12 + 5, none⟩) hlg).trans e5, (hbz.cell (p := ⟨g, off + n * 12 + 6, none⟩) hlg).trans e6, (hbz.cell (p := ⟨g, off + n * 12 + 7, none⟩) hlg).trans e7, (hbz.cell (p := ⟨g, off + n * 12 + 8, none⟩) hlg).trans e8, (hbz.cell (p := ⟨g, off + n * 12 + 9, none⟩) hlg).trans e9, (hbz.cell (p := ⟨g, off + n * 12 + 10, none⟩) hlg).trans e10, (hbz.cell (p := ⟨g, off + n * 12 + 11, none⟩) hlg).trans e11⟩
          refine hK _ _ (.inr hS) ?_
          clear hK K
          try simp only [Act.put, List.setIfInBounds_toArray, List.set_cons_zero, List.set_cons_succ]
          refine anyT_oneL (i := 9) rfl (by kernel_rfl) ?_
          intro K hK
          rw [if_pos (by rfl)]
          refine wp_store_fresh (w := wc.drew.drew) 48 _ _ rfl [Value.int .i64 mk, Value.int .i64 mg, Value.int .i64 mf, Value.int .i64 (t : Int), Value.int .i64 mT, Value.int .i64 mi, Value.int .i64 ml, Value.int .i64 mc, Value.bool mo, Value.slice A a c, Value.slice A2 n2 c2, Value.slice A3 n3 c3] _ rfl rfl rfl (by kernel_rfl) rfl (by simp [Value.oneCell']) ?_
          try dsimp only
          refine hK _ _ (.inl rfl) ?_
          clear hK K hS
          try simp only [Act.put, List.setIfInBounds_toArray, List.set_cons_zero, List.set_cons_succ]
          refine anyT_done (by kernel_rfl) ?_ _
          try clear hS
          -- END
          obtain ⟨ws, hws⟩ : ∃ ws, ws = wc.drew.drew.alloc (.cells #[.int .i64 mk, .int .i64 mg, .int .i64 mf, .int .i64 (t : Int), .int .i64 mT, .int .i64 mi, .int .i64 ml, .int .i64 mc, .bool mo, .slice A a c, .slice A2 n2 c2, .slice A3 n3 c3] 48) := ⟨_, rfl⟩
          rw [← hws]
          have HAD : Hid (Ext [] o o wc ws.drew) := by rw [hws]; exact (((Ext.refl [] o wc).drew.drew).alloc _).drew
          have HKB : Hid (Blk ws wc.heap.size 48 [.int .i64 mk, .int .i64 mg, .int .i64 mf, .int .i64 (t : Int), .int .i64 mT, .int .i64 mi, .int .i64 ml, .int .i64 mc, .bool mo, .slice A a c, .slice A2 n2 c2, .slice A3 n3 c3]) := by rw [hws]; exact Blk.new wc.drew.drew 48 _
          have HKD : Hid (WorldIn o ws.drew wb W p (.slice (some ⟨g, off, none⟩) N cs) vc vl) := HC.out.1.ext HAD.out
          have km := HKB.out.cells
          have hlm := HKB.out.lt
          have kt : ws.cell? ⟨wb, t, none⟩ = some (.pointer (some ⟨p t, 0, none⟩)) := by
            show ws.drew.cell? ⟨wb, t, none⟩ = _
            rw [HKD.out.blk.cells]; exact worldCells_at p _ _ _ t (by omega) (by omega)
          have hlw2 : wb < ws.heap.size := HKD.out.blk.lt
          clear hws kn e0 e1 e2 e3 e4 e5 e6 e7 e8 e9 e10 e11 kd kv hlg hld hnN hlw
          obtain ⟨f1, f2, f3, f4, f5, f6, f7⟩ := HR.out.fits t (by omega) (by omega)
          have HG := Lib.hid (And.intro f1 (And.intro f4 f7))
          have HT1 := Lib.hid (show 1 ≤ t by omega)
          have HT5 := Lib.hid (show t ≤ 5 by omega)
          clear f1 f2 f3 f4 f5 f6 f7
          go_upto_region 17 with (fail)
          -- BLOCK se
          have hS : (fun w' : World => (∀ i, w'.cell? ⟨wc.heap.size, i, none⟩ = [Value.int .i64 mk, .int .i64 mg, .int .i64 mf, .int .i64 (t : Int), .int .i64 mT, .int .i64 mi, .int .i64 ml, .int .i64 mc, .bool mo, .slice A a c, .slice A2 n2 c2, .slice A3 n3 c3][i]?) ∧ w'.cell? ⟨wb, t, none⟩ = some (.pointer (some ⟨p t, 0, none⟩))) ws.drew := ⟨km, kt⟩
          refine wp_region_T 12 (fun w' : World => (∀ i, w'.cell? ⟨wc.heap.size, i, none⟩ = [Value.int .i64 mk, .int .i64 mg, .int .i64 mf, .int .i64 (t : Int), .int .i64 mT, .int .i64 mi, .int .i64 ml, .int .i64 mc, .bool mo, .slice A a c, .slice A2 n2 c2, .slice A3 n3 c3][i]?) ∧ w'.cell? ⟨wb, t, none⟩ = some (.pointer (some ⟨p t, 0, none⟩))) (by kernel_rfl) ?_
          refine anyN_takeL (i := 0) (v := ?ve0) rfl (by kernel_rfl) (by kernel_rfl) (by kernel_rfl) (Nat.le_refl 12) (by kernel_rfl) (fun _ _ _ h => h) (Or.inl ⟨by rfl, fun wS hSw => ?hye0⟩) hS ?ree0
          case hye0 => (dsimp only at hSw; obtain ⟨hS1, hS2⟩ := hSw; go_simp; try with_reducible rfl)
          try simp only [Act.put, List.setIfInBounds_toArray, List.set_cons_zero, List.set_cons_succ]
          refine anyN_takeL (i := 1) (v := ?ve1) rfl (by kernel_rfl) (by kernel_rfl) (by kernel_rfl) (Nat.le_refl 12) (by kernel_rfl) (fun _ _ _ h => h) (Or.inl ⟨by rfl, fun wS hSw => ?hye1⟩) hS ?ree1
          case hye1 => (dsimp only at hSw; obtain ⟨hS1, hS2⟩ := hSw; go_simp; try with_reducible rfl)
          try simp only [Act.put, List.setIfInBounds_toArray, List.set_cons_zero, List.set_cons_succ]
          refine anyN_takeL (i := 2) (v := ?ve2) rfl (by kernel_rfl) (by kernel_rfl) (by kernel_rfl) (Nat.le_refl 12) (by kernel_rfl) (fun _ _ _ h => h) (Or.inl ⟨by rfl, fun wS hSw => ?hye2⟩) hS ?ree2
          case hye2 => (dsimp only at hSw; obtain ⟨hS1, hS2⟩ := hSw; go_simp; try with_reducible rfl)
          try simp only [Act.put, List.setIfInBounds_toArray, List.set_cons_zero, List.set_cons_succ]
          refine anyN_takeL (i := 3) (v := ?ve3) rfl (by kernel_rfl) (by kernel_rfl) (by kernel_rfl) (Nat.le_refl 12) (by kernel_rfl) (fun _ _ _ h => h) (Or.inl ⟨by rfl, fun wS hSw => ?hye3⟩) hS ?ree3
          case hye3 => (dsimp only at hSw; obtain ⟨hS1, hS2⟩ := hSw; go_simp; try with_reducible rfl)
          try simp only [Act.put, List.setIfInBounds_toArray, List.set_cons_zero, List.set_cons_succ]
          refine anyN_takeL (i := 4) (v := ?ve4) rfl (by kernel_rfl) (by kernel_rfl) (by kernel_rfl) (Nat.le_refl 12) (by kernel_rfl) (fun _ _ _ h => h) (Or.inl ⟨by rfl, fun wS hSw => ?hye4⟩) hS ?ree4
          case hye4 => (dsimp only at hSw; obtain ⟨hS1, hS2⟩ := hSw; go_simp; try with_reducible rfl)
          try simp only [Act.put, List.setIfInBounds_toArray, List.set_cons_zero, List.set_cons_succ]
          refine anyN_takeL (i := 5) (v := ?ve5) rfl (by kernel_rfl) (by kernel_rfl) (by kernel_rfl) (Nat.le_refl 12) (by kernel_rfl) (fun _ _ _ h => h) (Or.inl ⟨by rfl, fun wS hSw => ?hye5⟩) hS ?ree5
          case hye5 => (dsimp only at hSw; obtain ⟨hS1, hS2⟩ := hSw; go_simp; try with_reducible rfl)
          try simp only [Act.put, List.setIfInBounds_toArray, List.set_cons_zero, List.set_cons_succ]
          refine anyN_takeL (i := 6) (v := ?ve6) rfl (by kernel_rfl) (by kernel_rfl) (by kernel_rfl) (Nat.le_refl 12) (by kernel_rfl) (fun _ _ _ h => h) (Or.inl ⟨by rfl, fun wS hSw => ?hye6⟩) hS ?ree6
          case hye6 => (dsimp only at hSw; obtain ⟨hS1, hS2⟩ := hSw; go_simp; try with_reducible rfl)
          try simp only [Act.put, List.setIfInBounds_toArray, List.set_cons_zero, List.set_cons_succ]
          refine anyT_oneL (i := 7) rfl (by kernel_rfl) ?_
          intro K hK
          go_simp
          refine (step12 o (2 * t) (2 * t + 1) (p t) (W.node t) ⟨mk, mg, mf, (t : Int), mT, mi, ml, mc, mo, me, mm, md⟩ A a c A2 n2 c2 A3 n3 c3 _ (show RaftAt o (2 * t) (2 * t + 1) ws.drew (p t) (W.node t) from HKD.out.nodes t HT1.out (by have := HT5.out; omega)) HG.out.1 HM.out.2.1 HM.out.2.2.1 (HG.out.2.2 _) HM.out.2.2.2.1 HM.out.2.2.2.2.1 HG.out.2.1 (EntsAt.stays HMD.out.1 (HAD.out.stays (by simp)) (HAD.out.stays (by simp))) (IntsAt.stays HMD.out.2.1 (HAD.out.stays (by simp))) (BytesAt.stays HMD.out.2.2 (HAD.out.stays (by simp))) (HAD.out.wf HWC.out) (by have := HT1.out; omega) (by omega) (by omega)).mono ?_
          rintro e w6 ⟨r6, v6, er6, hr6, rfl, hO6⟩
          have HQ : Hid (PlayMid o wb W w (.int .i64 (t : Int)) v6 w6) := PlayMid.of HC.out.1 HC.out.2.1 HAD.out HT1.out HT5.out (by rcases hr6 with rfl | rfl <;> first | exact .same | exact .step _ HM.out.1 rfl) hO6
          have kS6 : (∀ i, w6.cell? ⟨wc.heap.size, i, none⟩ = [Value.int .i64 mk, .int .i64 mg, .int .i64 mf, .int .i64 (t : Int), .int .i64 mT, .int .i64 mi, .int .i64 ml, .int .i64 mc, .bool mo, .slice A a c, .slice A2 n2 c2, .slice A3 n3 c3][i]?) ∧ w6.cell? ⟨wb, t, none⟩ = some (.pointer (some ⟨p t, 0, none⟩)) := by
            obtain ⟨o6, _, _, _, _, _, hE6⟩ := hO6
            have h23 := HKD.out.own
            have h00 := HWC.out wc.heap.size (Nat.le_refl _)
            exact ⟨fun i => (hE6.cell (p := ⟨wc.heap.size, i, none⟩) hlm (by show o wc.heap.size ∉ _; rw [h00]; have := HT1.out; simp; omega)).trans (km i), (hE6.cell (p := ⟨wb, t, none⟩) hlw2 (by show o wb ∉ _; rw [h23]; have := HT5.out; simp; omega)).trans kt⟩
          clear hO6 hr6
          try dsimp only
          clear hS
          have hS : (fun w' : World => (∀ i, w'.cell? ⟨wc.heap.size, i, none⟩ = [Value.int .i64 mk, .int .i64 mg, .int .i64 mf, .int .i64 (t : Int), .int .i64 mT, .int .i64 mi, .int .i64 ml, .int .i64 mc, .bool mo, .slice A a c, .slice A2 n2 c2, .slice A3 n3 c3][i]?) ∧ w'.cell? ⟨wb, t, none⟩ = some (.pointer (some ⟨p t, 0, none⟩))) w6 := kS6
          refine hK _ _ (.inr hS) ?_
          clear hK K
          try simp only [Act.put, List.setIfInBounds_toArray, List.set_cons_zero, List.set_cons_succ]
          refine anyN_takeL (i := 8) (v := ?ve8) rfl (by kernel_rfl) (by kernel_rfl) (by kernel_rfl) (Nat.le_refl 12) (by kernel_rfl) (fun _ _ _ h => h) (Or.inl ⟨by rfl, fun wS hSw => ?hye8⟩) hS ?ree8
          case hye8 => (dsimp only at hSw; obtain ⟨hS1, hS2⟩ := hSw; go_simp; try with_reducible rfl)
          try simp only [Act.put, List.setIfInBounds_toArray, List.set_cons_zero, List.set_cons_succ]
          refine anyN_takeL (i := 9) (v := ?ve9) rfl (by kernel_rfl) (by kernel_rfl) (by kernel_rfl) (Nat.le_refl 12) (by kernel_rfl) (fun _ _ _ h => h) (Or.inl ⟨by rfl, fun wS hSw => ?hye9⟩) hS ?ree9
          case hye9 => (dsimp only at hSw; obtain ⟨hS1, hS2⟩ := hSw; go_simp; try with_reducible rfl)
          try simp only [Act.put, List.setIfInBounds_toArray, List.set_cons_zero, List.set_cons_succ]
          refine anyN_takeL (i := 10) (v := ?ve10) rfl (by kernel_rfl) (by kernel_rfl) (by kernel_rfl) (Nat.le_refl 12) (by kernel_rfl) (fun _ _ _ h => h) (Or.inl ⟨by rfl, fun wS hSw => ?hye10⟩) hS ?ree10
          case hye10 => (dsimp only at hSw; obtain ⟨hS1, hS2⟩ := hSw; go_simp; try with_reducible rfl)
          try simp only [Act.put, List.setIfInBounds_toArray, List.set_cons_zero, List.set_cons_succ]
          refine anyN_takeL (i := 11) (v := ?ve11) rfl (by kernel_rfl) (by kernel_rfl) (by kernel_rfl) (Nat.le_refl 12) (by kernel_rfl) (fun _ _ _ h => h) (Or.inl ⟨by rfl, fun wS hSw => ?hye11⟩) hS ?ree11
          case hye11 => (dsimp only at hSw; obtain ⟨hS1, hS2⟩ := hSw; go_simp; try with_reducible rfl)
          try simp only [Act.put, List.setIfInBounds_toArray, List.set_cons_zero, List.set_cons_succ]
          refine anyT_done (by kernel_rfl) ?_ _
          try clear hS
          -- END
          go_wp2
          go_meet
          exact HQ
    case rest =>
      obtain ⟨k', r', o', p', vs', vc', vl', B', h1, h5, rfl, hN, hE, hin, hx⟩ := hcut.out
      have HE := Lib.hid (And.intro hN hE)
      have HS := Lib.hid (sent_step hin hx (HR.out.len k' r' (by omega) (by omega) hN))
      have kw := hin.blk.cells
      have kw6 : wc.cell? ⟨wb, 6, none⟩ = some vs' := by rw [hin.blk.cells]; rfl
      have hlw2 := hin.blk.lt
      clear hcut hN hE hin hx kd kn hld hlw kw
      go_wp2_with (at_builtin; refine wpList_append_ex rfl (.tmp 155) (.tmp 156) 39 rfl _ _ _ rfl rfl HS.out ?_; rintro v' w' ⟨⟨A9, k9, c9, rfl⟩, hl2, f2, q2, HQ⟩)
      go_ret
      obtain ⟨o3, hW3, hE3⟩ := HQ.out
      exact ⟨k', o3, rfl, HE.out.2.trans (hE3.mono (by simp [Owners])), .inr ⟨h1, h5, r', HE.out.1, hW3.at_⟩⟩
end Go.Proofs.Ytibkmhacpodceaa
