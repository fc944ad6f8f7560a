/- Walks: RaftcoreSafe. -/
import Derived.Test.YtibkmhacpodceaaW47
import Derived.Test.YtibkmhacpodceaaW50
namespace Go.Proofs.Ytibkmhacpodceaa
open Go.RowKit

/-- the world after i events -/
def SafeAt (w : World) (wb i : Nat) (wr : World) : Prop := ∃ (o : Own) (W : WorldM), Inv (3 * i) W ∧ Lens i (3 * i) W ∧ WorldAt o wr wb W ∧ Ext Owners zeroOwn o w wr

def EventsAt (w : World) (A : Option Addr) (n : Nat) : Prop := ∀ i : Nat, i < n → ∃ (g off : Nat) (d0 d1 d2 : Int), A = some ⟨g, off, none⟩ ∧ g < w.heap.size ∧ w.cell? ⟨g, off + i * 3, none⟩ = some (.int .i64 d0) ∧ w.cell? ⟨g, off + i * 3 + 1, none⟩ = some (.int .i64 d1) ∧ w.cell? ⟨g, off + i * 3 + 2, none⟩ = some (.int .i64 d2)

set_option maxRecDepth 100000 in
set_option maxHeartbeats 8000000 in
theorem safe3 (A : Option Addr) (n c : Nat) (w : World) (hev : EventsAt w A n) :
    Calls Try.prog 3 #[.slice A n c] w fun e w' => e = .returned (.bool true) ∧ Below w.heap.size w w' := by
  have HEV := Lib.hid hev
  clear hev
  go_enter Try.func3, Try.ntmps3
  go_wp2_with fail
  refine (awake4 _).mono ?_
  rintro e w1 ⟨rfl, hb1⟩
  have HB1 := Lib.hid hb1
  clear hb1
  go_wp2_with fail
  refine (world5 _).mono ?_
  rintro e w2 ⟨wb, o2, rfl, hE2, hW2⟩
  have HS2 : Hid (SafeAt w wb 0 w2) := ⟨o2, WorldM.start, Inv.start, ⟨by simp [WorldM.start], by simp [WorldM.start], by simp [WorldM.start]⟩, hW2, (Ext.of_below HB1.out (wf_zero w)).trans hE2⟩
  clear hE2 hW2
  go_wp2_with fail
  go_loopw [5] (fun s wr => ∃ i : Nat, i ≤ n ∧ i ≤ 500 ∧ s = .int .i64 i ∧ Hid (SafeAt w wb i wr)) (fun s _ => 500 - (intOf s).toNat)
  case atStart => exact ⟨0, Nat.zero_le _, by decide, rfl, HS2.out⟩
  case round =>
    obtain ⟨i, hi1, hi2, rfl, HS⟩ := hrel
    by_cases hlt : i < n ∧ i < 500
    · obtain ⟨hl1, hl2⟩ := hlt
      obtain ⟨o, W, hinv, hlens, hW, hE⟩ := HS.out
      obtain ⟨g, off, d0, d1, d2, rfl, hg, e0, e1, e2⟩ := HEV.out i hl1
      have HW := Lib.hid hW
      have HINV := Lib.hid (And.intro hinv hlens)
      have HE := Lib.hid hE
      have k0 := (hE.cell (p := ⟨g, off + i * 3, none⟩) hg (by simp [zeroOwn, Owners])).trans e0
      have k1 := (hE.cell (p := ⟨g, off + i * 3 + 1, none⟩) hg (by simp [zeroOwn, Owners])).trans e1
      have k2 := (hE.cell (p := ⟨g, off + i * 3 + 2, none⟩) hg (by simp [zeroOwn, Owners])).trans e2
      have HWF : Hid (Wf o wr) := hE.wf (wf_zero w)
      have hi500 : (i : Int) < 500 := by omega
      have hin : (i : Int) < n := by omega
      have hgr : g < wr.heap.size := Nat.lt_of_lt_of_le hg hE.size
      clear hinv hlens hW hE e0 e1 e2 hg HS2
      go_wp2_with fail
      refine (play6 o wb W d0 d1 d2 _ HW.out (HINV.out.1.ready HINV.out.2 (by omega) (by omega)) HWF.out).mono ?_
      rintro e w5 ⟨k, o5, rfl, hE5, hP⟩
      have HE5 := Lib.hid (HE.out.trans hE5)
      rcases hP with ⟨rfl, hW5⟩ | ⟨hk1, hk5, r', hN, hW5⟩
      · have HS5 : Hid (SafeAt w wb (i + 1) w5) := ⟨o5, W, HINV.out.1.mono (by omega), HINV.out.2.mono (by omega) (by omega), hW5, HE5.out⟩
        clear hE5 hW5
        go_wp2_with fail
        go_roundw
        case rel => exact ⟨i + 1, by omega, by omega, by go_num, HS5.out⟩
        case measure => simp [intOf]; omega
      · have HW5 := Lib.hid hW5
        have HI5 : Hid (Inv (3 * (i : Int) + 3) (W.put k r')) := HINV.out.1.next (by omega) (by omega) hN
        have HL5 : Hid (Lens (i + 1) (3 * (i : Int) + 3) (W.put k r')) := HINV.out.2.put (HINV.out.1.lens (by omega) (by omega) hN)
        have HR5 : Hid (Ready (W.put k r')) := HI5.out.ready HL5.out (by omega) (by omega)
        have HWF5 : Hid (Wf o5 w5) := HE5.out.wf (wf_zero w)
        have hk0 : ((k : Int) == 0) = false := by simpa using (by omega : ¬ (k : Int) = 0)
        clear hE5 hW5 hN
        go_wp2_with fail
        refine (holds7 o5 wb (W.put k r') k _ HW5.out hk1 hk5 (HR5.out.fits k hk1 hk5).1.ok.log (by have := HL5.out.com; omega) (by have := HL5.out.ldr; omega) (HI5.out.fits (by omega) (by omega)) (fun hr => by obtain ⟨a, b, c⟩ := HI5.out.alone (k := k) (by omega) (by omega) hr; exact ⟨a, by omega, c⟩) HWF5.out).mono ?_
        rintro e w6 ⟨o6, rfl, hE6, hW6⟩
        have HS6 : Hid (SafeAt w wb (i + 1) w6) := by
          refine ⟨o6, (W.put k r').noted k, ?_, ?_, hW6, HE5.out.trans hE6⟩
          · have := HI5.out.noted (k := k) (by omega) (by omega)
            rw [show (3 * ((i + 1 : Nat) : Int)) = 3 * (i : Int) + 3 by omega]; exact this
          · have := HL5.out.noted HI5.out (k := k) (by omega) (by omega)
            rw [show (3 * ((i + 1 : Nat) : Int)) = 3 * (i : Int) + 3 by omega]; exact this
        clear hE6 hW6
        go_wp2_with fail
        go_roundw
        case rel => exact ⟨i + 1, by omega, by omega, by go_num, HS6.out⟩
        case measure => simp [intOf]; omega
    · obtain ⟨o, W, _, _, _, hE⟩ := HS.out
      have HB : Hid (Below w.heap.size w wr) := hE.zero_below (by simp [Owners])
      clear hE
      by_cases hl1 : i < n
      · have hi500 : ¬ (i : Int) < 500 := by omega
        have hin : (i : Int) < n := by omega
        go_wp2_with fail
        go_ret
        exact ⟨rfl, HB.out⟩
      · have hin : ¬ (i : Int) < n := by omega
        go_wp2_with fail
        go_ret
        exact ⟨rfl, HB.out⟩
end Go.Proofs.Ytibkmhacpodceaa
