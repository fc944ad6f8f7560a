/- Walks: named, raftcore's members, right, follow, a point's right. -/
import Derived.Test.YtibkmhacpodceaaW3
namespace Go.Proofs.Ytibkmhacpodceaa
open Go.RowKit

theorem make_ints (n : Nat) (hc : n ≤ 100000) : ∃ cur : Array Value, cur.size = n ∧ ∀ w : World, (Instr.makeSlice 35 (.int .i64 (n : Int)) (.int .i64 (n : Int))).run Try.prog w = .ok (.slice (some ⟨w.heap.size, 0, none⟩) n n) (w.alloc (.cells cur 3)) := by
  obtain ⟨i, hi, hz, hs, hb⟩ := parts_int
  refine ⟨madeCells (Value.cells (.int .i64 0)) (n * i.size), by rw [size_madeCells, hs]; omega, fun w => ?_⟩
  have hb' : (i.bytes : Int) * (n : Int) ≤ 281474976710656 := by rw [hb]; omega
  have hr := run_make (P := Try.prog) w 35 3 i _ Try.underlying35 hi hz .i64 .i64 n n (by omega) (by omega) hb' (by omega)
  simp only [Int.toNat_natCast] at hr
  exact hr

def NamedInv (l : List Int) (k : Nat) (w : World) (wr : World) : Prop := ∃ cur : Array Value, wr = w.alloc (.cells cur 3) ∧ cur.size = l.length ∧ ∀ j (_ : j < k) (hl : j < l.length), cur[j]? = some (.int .i64 l[j])

theorem namedInv_end {l : List Int} {w wr : World} (h : NamedInv l l.length w wr) : CloneInts l w (.returned (.slice (some ⟨w.heap.size, 0, none⟩) l.length l.length)) wr := by
  obtain ⟨cur, rfl, hs, hc⟩ := h
  refine ⟨_, rfl, ⟨_, _, l.map (Value.int .i64), rfl, Nat.le_refl _, ?_, fun _ => ⟨w.heap.size, 0, rfl, Nat.le_refl _, by simp, fun j u hu => ?_⟩⟩, (Below.refl _ _).alloc (Nat.le_refl _) _⟩
  · have : ∀ l : List Int, Elems 1 IntR l (l.map (Value.int .i64)) := by
      intro l
      induction l with
      | nil => rfl
      | cons a l ih => exact ⟨by simp, by simp [IntR], by simpa using ih⟩
    exact this l
  · rw [List.getElem?_map] at hu
    cases hj : l[j]? with
    | none => rw [hj] at hu; cases hu
    | some a =>
      rw [hj] at hu
      obtain ⟨hl, rfl⟩ := List.getElem?_eq_some_iff.1 hj
      simp at hu
      subst hu
      rw [Nat.zero_add, World.cell?_alloc_new]
      exact hc j hl hl

theorem namedInv_step {l : List Int} {k : Nat} {w : World} {cur : Array Value} (hk : k < l.length) (hs : cur.size = l.length) (hc : ∀ j (_ : j < k) (hl : j < l.length), cur[j]? = some (.int .i64 l[j])) :
    NamedInv l (k + 1) w (w.alloc (.cells (cur.setIfInBounds k (.int .i64 l[k])) 3)) := by
  refine ⟨_, rfl, by simpa using hs, fun j hj hl => ?_⟩
  rw [Array.getElem?_setIfInBounds]
  by_cases he : k = j
  · subst he; simp; omega
  · rw [if_neg he]; exact hc j (by omega) hl

set_option maxHeartbeats 1000000 in
theorem named77 (v : Value) (l : List Int) (B : Nat → Prop) (w : World) (h : BytesAt B w v l) (hl : l.length ≤ 30000) :
    Calls Try.prog 77 #[v] w (CloneInts l w) := by
  obtain ⟨A, c, rfl, hc⟩ := h.form
  obtain ⟨cur, hcs, hmk⟩ := make_ints l.length (by omega)
  have HR : Hid (NamedInv l 0 w (w.alloc (.cells cur 3))) := ⟨cur, rfl, hcs, fun j hj => by omega⟩
  clear hcs
  go_enter Try.func77, Try.ntmps77
  go_wp2
  go_loopw [11] (fun i wr => ∃ k : Nat, k ≤ l.length ∧ i = .int .i64 k ∧ Hid (NamedInv l k w wr)) (fun i _ => l.length - (intOf i).toNat)
  case atStart => exact ⟨0, Nat.zero_le _, rfl, HR⟩
  case round =>
    clear HR hmk
    obtain ⟨k, hk, rfl, HI⟩ := hrel
    by_cases hlt : k < l.length
    · obtain ⟨cur, rfl, hs, hcur⟩ := HI.out
      obtain ⟨g, off, rfl, hg, hcell, hb0, hb1⟩ := BytesAt.at_ (BytesAt.stays h ((Stays.refl B w).alloc (.cells cur 3))) k hlt
      have HS := Lib.hid (namedInv_step (w := w) hlt hs hcur)
      obtain ⟨z, hck⟩ : ∃ z, cur[k]? = some z := ⟨_, Array.getElem?_eq_getElem (by omega)⟩
      clear hs hcur HI
      generalize l[k] = y at *
      go_wp2
      go_roundw
      case rel => exact ⟨k + 1, by omega, by go_num, HS⟩
      case measure => simp [intOf]; omega
    · obtain rfl : k = l.length := by omega
      go_wp2
      go_ret
      exact namedInv_end HI.out

set_option maxHeartbeats 1000000 in
theorem right91 (x : Ent) (A : Option Addr) (n c : Nat) (B : Nat → Prop) (w : World) (h : BytesAt B w (.slice A n c) x.data) (hl : x.data.length ≤ 30000) :
    Calls Try.prog 91 #[.agg #[.int .i64 x.index, .int .i64 x.term, .int .i64 x.kind, .slice A n c]] w fun e w' => e = .returned (.bool (rightB x)) ∧ Below w.heap.size w w' := by
  obtain ⟨rfl, hc⟩ := h.len
  go_enter Try.func91, Try.ntmps91
  go_wp2_with (first
    | (go_at_call 86; refine (count86 _ _).mono ?_; rintro e w' ⟨rfl, rfl⟩)
    | (go_at_call 77; refine (named77 _ x.data B _ (BytesAt.stays h ((Stays.refl B w).alloc _)) (by omega)).mono ?_; rintro e w' ⟨v', rfl, hI, hb⟩)
    | (go_at_call 26; refine (members26 _ x.data _ _ (by assumption) (by omega)).mono ?_; rintro e w' ⟨rfl, rfl⟩))
  all_goals
    go_ret
    refine ⟨ret_bool ?_, ?_⟩
    · unfold rightB
      simp_all <;> first | omega | (rw [Bool.eq_iff_iff]; simp)
    · first
        | exact (Below.refl _ _).alloc (Nat.le_refl _) _
        | exact ((Below.refl _ _).alloc (Nat.le_refl _) _).trans (hb.mono (by simp))

theorem kept_new {w w1 : World} {t : TypeId} {l : List Value} (hb : Below (w.alloc (.cells l.toArray t)).heap.size (w.alloc (.cells l.toArray t)) w1) :
    (∀ i, w1.cell? ⟨w.heap.size, i, none⟩ = l[i]?) ∧ (∀ i, w1.frozen? ⟨w.heap.size, i, none⟩ = false) ∧ w.heap.size < w1.heap.size ∧ Below w.heap.size w w1 := by
  have h := (Blk.new w t l).same (hb.block w.heap.size (by simp))
  exact ⟨h.cells, h.frozens, h.lt, ((Below.refl _ _).alloc (Nat.le_refl _) _).trans (hb.mono (by simp))⟩

/-- what follow's loop knows behind k of them -/
def FollowTo (i t : Int) (l : List Ent) (k : Nat) (t' : Int) : Prop := followB (i + 1) t l = followB (i + 1 + k) t' (l.drop k)

theorem followTo_step {i t t' : Int} {l : List Ent} {k : Nat} (h : FollowTo i t l k t') (hk : k < l.length) (h1 : rightB l[k] = true) (h2 : l[k].index = i + 1 + k) (h3 : t' ≤ l[k].term) : FollowTo i t l (k + 1) l[k].term := by
  unfold FollowTo at h ⊢
  rw [h, List.drop_eq_getElem_cons hk, followB]
  simp [h1, h2, h3]
  congr 1
  omega
theorem followTo_bad {i t t' : Int} {l : List Ent} {k : Nat} (h : FollowTo i t l k t') (hk : k < l.length) (hb : ¬ (rightB l[k] = true ∧ l[k].index = i + 1 + k ∧ t' ≤ l[k].term)) : followB (i + 1) t l = false := by
  unfold FollowTo at h
  rw [h, List.drop_eq_getElem_cons hk, followB]
  cases h1 : rightB l[k] <;> simp
  simp [h1] at hb
  intro h2 h3
  have := hb h2
  omega
theorem followTo_end {i t t' : Int} {l : List Ent} (h : FollowTo i t l l.length t') : followB (i + 1) t l = true := by
  unfold FollowTo at h
  rw [h, List.drop_length, followB]

set_option maxHeartbeats 2000000 in
theorem follow84 (i t : Int) (v : Value) (l : List Ent) (B B2 : Nat → Prop) (w : World) (h : EntsAt B B2 w v l) (hl : l.length ≤ 20000) (hd : ∀ (i : Nat) (hi : i < l.length), l[i].data.length ≤ 30000) (hi0 : 0 ≤ i) (hi1 : i ≤ 60000) :
    Calls Try.prog 84 #[.int .i64 i, .int .i64 t, v] w fun e w' => e = .returned (.bool (followB (i + 1) t l)) ∧ Below w.heap.size w w' := by
  obtain ⟨A, c, rfl, hc⟩ := h.form
  have HOK := Lib.hid hd
  clear hd
  go_enter Try.func84, Try.ntmps84
  go_wp2
  go_loopw [1, 11] (fun x y wr => ∃ (k : Nat) (t' : Int), k ≤ l.length ∧ y = .int .i64 k ∧ x = .int .i64 t' ∧ Hid (FollowTo i t l k t') ∧ Below w.heap.size w wr) (fun _ y _ => l.length - (intOf y).toNat)
  case atStart => exact ⟨0, t, Nat.zero_le _, rfl, rfl, by unfold Hid FollowTo; simp, Below.refl _ _⟩
  case round =>
    obtain ⟨k, t', hk, rfl, rfl, HI, hbel⟩ := hrel
    by_cases hlt : k < l.length
    · obtain ⟨g, off, A', n', c', rfl, hg, h0, h1, h2, h3, hD⟩ := EntsAt.at_ (EntsAt.stays h (Stays.of_below hbel) (Stays.of_below hbel)) k hlt
      have hdk := HOK.out k hlt
      have HB : Hid (¬ (rightB l[k] = true ∧ l[k].index = i + 1 + k ∧ t' ≤ l[k].term) → followB (i + 1) t l = false) := followTo_bad HI.out hlt
      have HS : Hid (rightB l[k] = true → l[k].index = i + 1 + k → t' ≤ l[k].term → FollowTo i t l (k + 1) l[k].term) := followTo_step HI.out hlt
      clear HI
      generalize l[k] = x at *
      go_wp2_with (go_at_call 91; refine (right91 x A' n' c' B2 _ (BytesAt.stays hD ((Stays.refl B2 wr).alloc _)) (by omega)).mono ?_; rintro e w' ⟨rfl, hb⟩; obtain ⟨hc1, hf1, hs1, hb1⟩ := kept_new hb)
      all_goals first
        | (go_ret
           refine ⟨ret_bool (HB.out ?_).symm, hbel.trans (hb1.mono hbel.size)⟩
           rintro ⟨p1, p2, p3⟩
           first | omega | contradiction)
        | (go_roundw
           case rel => exact ⟨k + 1, x.term, by omega, by go_num, rfl, HS.out (by assumption) (by assumption) (by assumption), hbel.trans (hb1.mono hbel.size)⟩
           case measure => simp [intOf]; omega)
    · obtain rfl : k = l.length := by omega
      have HE := Lib.hid (followTo_end HI.out)
      clear HI
      go_wp2
      go_ret
      exact ⟨ret_bool HE.out.symm, hbel⟩

set_option maxHeartbeats 2000000 in
theorem pright88 (i t : Int) (v : Value) (A : Option Addr) (n c : Nat) (hv : v = .slice A n c) (l : List Int) (B : Nat → Prop) (w : World) (h : IntsAt B w v l) (hl : l.length ≤ 30000) :
    Calls Try.prog 88 #[.agg #[.int .i64 i, .int .i64 t, v]] w fun e w' => e = .returned (.bool (pointB i t l)) ∧ Below w.heap.size w w' := by
  subst hv
  go_enter Try.func88, Try.ntmps88
  go_wp2_with (first
    | (go_at_call 86; refine (count86 _ _).mono ?_; rintro e w' ⟨rfl, rfl⟩)
    | (go_at_call 26; refine (members26 _ l B _ (IntsAt.stays h ((Stays.refl B w).alloc _)) hl).mono ?_; rintro e w' ⟨rfl, rfl⟩))
  all_goals
    go_ret
    refine ⟨ret_bool ?_, (Below.refl _ _).alloc (Nat.le_refl _) _⟩
    unfold pointB
    simp_all <;> rfl

end Go.Proofs.Ytibkmhacpodceaa

/- Walks: what a log tells: Last, Commit, entry, Term, At, Slice. -/
namespace Go.Proofs.Ytibkmhacpodceaa
open Go.RowKit

theorem LogAt.open_ {o : Own} {kl : Nat} {w : World} {b : Nat} {L : LogM} (h : LogAt o kl w b L) : ∃ A n c A2 n2 c2,
    (∀ i, w.cell? ⟨b, i, none⟩ = [.int .i64 L.sI, .int .i64 L.sT, .slice A n c, .slice A2 n2 c2, .int .i64 L.commit][i]?) ∧ (∀ i, w.frozen? ⟨b, i, none⟩ = false) ∧ b < w.heap.size ∧ n2 = L.ents.length ∧ n2 ≤ c2 ∧
    IntsAt (Of o 0) w (.slice A n c) L.sM ∧ RowOf 4 (EntR (Of o 0) w) 63 o kl w (.slice A2 n2 c2) L.ents := by
  obtain ⟨A, n, c, A2, n2, c2, hb, ho, hm, hr⟩ := h
  exact ⟨A, n, c, A2, n2, c2, hb.cells, hb.frozens, hb.lt, hr.slice.len.1, hr.slice.len.2, hm, hr⟩

set_option maxHeartbeats 400000 in
theorem commit19 (o : Own) (kl : Nat) (b : Nat) (L : LogM) (w : World) (h : LogAt o kl w b L) :
    Calls Try.prog 19 #[.pointer (some ⟨b, 0, none⟩)] w fun e w' => e = .returned (.int .i64 L.commit) ∧ w' = w := by
  obtain ⟨A, n, c, A2, n2, c2, hc, hf, hb, hn2, hc2, hM, hE⟩ := h.open_
  clear hn2
  go_enter Try.func19, Try.ntmps19
  go_wp2
  go_ret
  exact ⟨rfl, rfl⟩

theorem last_nil {L : LogM} (h : L.ents.length = 0) : L.last = (L.sI, L.sT) := by
  have := List.eq_nil_of_length_eq_zero h
  simp [LogM.last, this]
theorem last_some {L : LogM} {n : Nat} (h : L.ents.length = n + 1) : ∃ x, L.ents[n]? = some x ∧ L.last = (x.index, x.term) := by
  refine ⟨L.ents[n]'(by omega), by simp [h], ?_⟩
  have : L.ents.getLast? = some (L.ents[n]'(by omega)) := by
    rw [List.getLast?_eq_getElem?]; simp [h]
  simp [LogM.last, this]

set_option maxHeartbeats 1000000 in
theorem last28 (o : Own) (kl : Nat) (b : Nat) (L : LogM) (w : World) (h : LogAt o kl w b L) (hl : L.ents.length ≤ 20000) :
    Calls Try.prog 28 #[.pointer (some ⟨b, 0, none⟩)] w fun e w' => e = .returned (.tuple #[.int .i64 L.last.1, .int .i64 L.last.2]) ∧ Below w.heap.size w w' := by
  obtain ⟨A, n, c, A2, n2, c2, hc, hf, hb, hn2, hc2, hM, hE⟩ := h.open_
  rcases Nat.eq_zero_or_pos n2 with h0 | h0
  · subst h0
    have HL := Lib.hid (last_nil hn2.symm)
    clear hn2
    go_enter Try.func28, Try.ntmps28
    go_wp2
    go_quiet (fail)
    go_wp2
    go_ret2
    rw [HL.out]
    exact ⟨rfl, below_drewN (Below.refl _ _) _⟩
  · obtain ⟨m, rfl⟩ : ∃ m, n2 = m + 1 := ⟨n2 - 1, by omega⟩
    obtain ⟨x, hx, hL⟩ := last_some hn2.symm
    have HL := Lib.hid hL
    obtain ⟨g, off, A', n', c', rfl, hg, k0, k1, k2, k3, hD⟩ := EntsAt.at? hE.slice hx
    have hne : ((m : Int) + 1 == 0) = false := by rw [beq_eq_false_iff_ne]; omega
    have hb1 : m + 1 ≤ 20000 := by omega
    clear hn2 hx hL
    go_enter Try.func28, Try.ntmps28
    go_wp2
    go_region
    all_goals go_wp2
    all_goals go_quiet (fail)
    all_goals go_wp2
    all_goals
      go_ret2
      rw [HL.out]
      exact ⟨rfl, below_drewN ((Below.refl _ _).alloc (Nat.le_refl _) _).drew _⟩

def EntryIs (L : LogM) (i : Int) (B : Nat → Prop) (w : World) (e : Ending) (w' : World) : Prop :=
  Below w.heap.size w w' ∧ ((L.entry i = none ∧ e = .returned (.tuple #[.agg #[.int .i64 0, .int .i64 0, .int .i64 0, .slice none 0 0], .bool false])) ∨
    ∃ x A n c, L.entry i = some x ∧ e = .returned (.tuple #[.agg #[.int .i64 x.index, .int .i64 x.term, .int .i64 x.kind, .slice A n c], .bool true]) ∧ BytesAt B w' (.slice A n c) x.data)

theorem entry_cases (L : LogM) (i : Int) : (i ≤ L.sI ∧ L.entry i = none) ∨ (L.sI < i ∧ (L.ents.length : Int) < i - L.sI ∧ L.entry i = none) ∨
    (L.sI < i ∧ i - L.sI ≤ L.ents.length ∧ (i - L.sI).toNat - 1 < L.ents.length ∧ ∃ x, L.ents[(i - L.sI).toNat - 1]? = some x ∧ L.entry i = some x) := by
  unfold LogM.entry
  by_cases h1 : i ≤ L.sI
  · exact .inl ⟨h1, by simp [h1]⟩
  · by_cases h2 : (L.ents.length : Int) < i - L.sI
    · exact .inr (.inl ⟨by omega, h2, by simp [h2]⟩)
    · have h3 : (i - L.sI).toNat - 1 < L.ents.length := by omega
      have h4 : (i - L.sI - 1).toNat = (i - L.sI).toNat - 1 := by omega
      refine .inr (.inr ⟨by omega, by omega, h3, L.ents[(i - L.sI).toNat - 1], by simp, ?_⟩)
      rw [if_neg (by omega), h4]
      simp

set_option maxHeartbeats 1000000 in
theorem entry53 (o : Own) (kl : Nat) (b : Nat) (L : LogM) (i : Int) (w : World) (h : LogAt o kl w b L) (hl : L.ents.length ≤ 20000) (hs0 : 0 ≤ L.sI) (hs1 : L.sI ≤ 30000) (hi0 : 0 ≤ i) (hi1 : i ≤ 100000) :
    Calls Try.prog 53 #[.pointer (some ⟨b, 0, none⟩), .int .i64 i] w (EntryIs L i (Of o 0) w) := by
  obtain ⟨A, n, c, A2, n2, c2, hc, hf, hb, hn2, hc2, hM, hE⟩ := h.open_
  have hl2 : n2 ≤ 20000 := by omega
  rcases entry_cases L i with ⟨h1, h2⟩ | ⟨h1, h2, h3⟩ | ⟨h1, h2, h3, x, hx, h4⟩
  · have HE := Lib.hid h2
    clear h2 hn2
    go_enter Try.func53, Try.ntmps53
    go_wp2
    go_quiet (fail)
    go_wp2
    refine bodyPost_ret (v := .tuple #[.agg #[.int .i64 0, .int .i64 0, .int .i64 0, .slice none 0 0], .bool false]) (by simp [results, Try.results53, go_sem]) rfl ?_
    exact ⟨by repeat (first | exact Below.refl _ _ | refine Below.setCell ?_ (by simp) _ | refine below_drewN ?_ _ | refine Below.alloc ?_ (by simp) _ | refine Below.drew ?_), .inl ⟨HE.out, rfl⟩⟩
  · have HE := Lib.hid h3
    have h2' : (n2 : Int) < i - L.sI := by omega
    clear h3 hn2 h2
    have e1 : IntKind.i64.wrap (i - L.sI) = i - L.sI := IntWalk.i64_in _ (by omega)
    go_enter Try.func53, Try.ntmps53
    go_wp2
    go_quiet (fail)
    clear e1
    go_wp2
    refine bodyPost_ret (v := .tuple #[.agg #[.int .i64 0, .int .i64 0, .int .i64 0, .slice none 0 0], .bool false]) (by simp [results, Try.results53, go_sem]) rfl ?_
    exact ⟨by repeat (first | exact Below.refl _ _ | refine Below.setCell ?_ (by simp) _ | refine below_drewN ?_ _ | refine Below.alloc ?_ (by simp) _ | refine Below.drew ?_), .inl ⟨HE.out, rfl⟩⟩
  · have HE := Lib.hid h4
    have h2' : i - L.sI ≤ n2 := by omega
    obtain ⟨g, off, A', n', c', rfl, hg, k0, k1, k2, k3, hD⟩ := EntsAt.at? hE.slice hx
    have e1 : IntKind.i64.wrap (i - L.sI) = i - L.sI := IntWalk.i64_in _ (by omega)
    have e2 : IntKind.i64.wrap (i - L.sI - 1) = i - L.sI - 1 := IntWalk.i64_in _ (by omega)
    have b1 : 1 ≤ i - L.sI := by omega
    have b2 : i - L.sI - 1 < n2 := by omega
    clear h4 hn2 h2 h3 hx
    go_enter Try.func53, Try.ntmps53
    go_wp2
    go_quiet (fail)
    go_wp2
    go_region
    all_goals go_wp2
    refine bodyPost_ret (v := .tuple #[.agg #[.int .i64 x.index, .int .i64 x.term, .int .i64 x.kind, .slice A' n' c'], .bool true]) (by simp [results, Try.results53, go_sem]) rfl ?_
    refine (fun hb => ⟨hb, .inr ⟨x, A', n', c', HE.out, rfl, BytesAt.stays hD (Stays.of_below hb)⟩⟩) ?_
    repeat (first | exact Below.refl _ _ | refine Below.setCell ?_ (by simp) _ | refine below_drewN ?_ _ | refine Below.alloc ?_ (by simp) _ | refine Below.drew ?_)

end Go.Proofs.Ytibkmhacpodceaa

/- Walks: what a log tells: Term, At, Slice. -/
namespace Go.Proofs.Ytibkmhacpodceaa
open Go.RowKit

def termCode (L : LogM) (i : Int) : Int := if (L.termAt i).isSome then 0 else 100
def termVal (L : LogM) (i : Int) : Int := (L.termAt i).getD 0
theorem termCode_some {L : LogM} {i t : Int} (h : L.termAt i = some t) : termCode L i = 0 ∧ termVal L i = t := by simp [termCode, termVal, h]
theorem termCode_none {L : LogM} {i : Int} (h : L.termAt i = none) : termCode L i = 100 ∧ termVal L i = 0 := by simp [termCode, termVal, h]

def TermIs (L : LogM) (i : Int) (w : World) (e : Ending) (w' : World) : Prop :=
  e = .returned (.tuple #[.int .i64 (termVal L i), .int .i64 (termCode L i)]) ∧ Below w.heap.size w w'

set_option maxHeartbeats 1000000 in
theorem term47 (o : Own) (kl : Nat) (b : Nat) (L : LogM) (i : Int) (w : World) (h : LogAt o kl w b L) (hl : L.ents.length ≤ 20000) (hs0 : 0 ≤ L.sI) (hs1 : L.sI ≤ 30000) (hi0 : 0 ≤ i) (hi1 : i ≤ 100000) :
    Calls Try.prog 47 #[.pointer (some ⟨b, 0, none⟩), .int .i64 i] w (TermIs L i w) := by
  obtain ⟨A, n, c, A2, n2, c2, hc, hf, hb, hn2, hc2, hM, hE⟩ := h.open_
  clear hn2
  by_cases he : i = L.sI
  · have HE := Lib.hid (show L.termAt i = some L.sT by simp [LogM.termAt, he])
    have hb0 : (i == L.sI) = true := by simpa using he
    clear he
    go_enter Try.func47, Try.ntmps47
    go_wp2
    go_ret2
    exact ⟨by rw [(termCode_some HE.out).1, (termCode_some HE.out).2]; rfl, Below.refl _ _⟩
  · have hb0 : (i == L.sI) = false := by simpa using he
    have HE := Lib.hid (show L.termAt i = (L.entry i).map (·.term) by simp [LogM.termAt, he])
    clear he
    go_enter Try.func47, Try.ntmps47
    go_wp2_with fail
    refine (entry53 o kl b L i w h hl hs0 hs1 hi0 hi1).mono ?_
    rintro e w1 ⟨hb1, ⟨hn, rfl⟩ | ⟨x, A1, n1, c1, hn, rfl, hD⟩⟩
    · have HN := Lib.hid (termCode_none (L := L) (i := i) (by rw [HE.out, hn]; rfl))
      clear hn
      go_wp2
      go_ret2
      exact ⟨by rw [HN.out.1, HN.out.2]; rfl, hb1.alloc hb1.size _⟩
    · have HN := Lib.hid (termCode_some (L := L) (i := i) (t := x.term) (by rw [HE.out, hn]; rfl))
      clear hn
      go_wp2
      go_ret2
      exact ⟨by rw [HN.out.1, HN.out.2]; rfl, hb1.alloc hb1.size _⟩

def AtIs (L : LogM) (i : Int) (w : World) (e : Ending) (w' : World) : Prop :=
  Below w.heap.size w w' ∧ ((L.entry i = none ∧ e = .returned (.tuple #[.agg #[.int .i64 0, .int .i64 0, .int .i64 0, .slice none 0 0], .int .i64 100])) ∨
    ∃ x A n c, L.entry i = some x ∧ e = .returned (.tuple #[.agg #[.int .i64 x.index, .int .i64 x.term, .int .i64 x.kind, .slice A n c], .int .i64 0]) ∧ BytesAt (From w.heap.size) w' (.slice A n c) x.data)

set_option maxHeartbeats 1000000 in
theorem at24 (o : Own) (kl : Nat) (b : Nat) (L : LogM) (i : Int) (w : World) (h : LogAt o kl w b L) (hl : L.ents.length ≤ 20000) (hs0 : 0 ≤ L.sI) (hs1 : L.sI ≤ 30000) (hi0 : 0 ≤ i) (hi1 : i ≤ 100000)
    (hd : ∀ x, L.entry i = some x → x.data.length ≤ 30000) :
    Calls Try.prog 24 #[.pointer (some ⟨b, 0, none⟩), .int .i64 i] w (AtIs L i w) := by
  go_enter Try.func24, Try.ntmps24
  go_wp2_with fail
  refine (entry53 o kl b L i _ (h.ext ((Ext.refl [] o w).alloc _) (by simp) (by simp)) hl hs0 hs1 hi0 hi1).mono ?_
  rintro e w1 ⟨hb1, ⟨hn, rfl⟩ | ⟨x, A1, n1, c1, hn, rfl, hD⟩⟩
  · obtain ⟨k0, f0, hs, hb2⟩ := kept_new hb1
    have HN := Lib.hid hn
    clear hn
    go_wp2
    refine bodyPost_ret (v := .tuple #[.agg #[.int .i64 0, .int .i64 0, .int .i64 0, .slice none 0 0], .int .i64 100]) (by simp [results, Try.results24, go_sem, k0, hs]) rfl ?_
    refine ⟨?_, .inl ⟨HN.out, rfl⟩⟩
    repeat (first | exact hb2 | refine Below.setCell ?_ (by simp) _ | refine below_drewN ?_ _ | refine Below.alloc ?_ (by simp; omega) _ | refine Below.drew ?_)
  · obtain ⟨k0, f0, hs, hb2⟩ := kept_new hb1
    have HN := Lib.hid hn
    have hdx := hd x hn
    clear hn hd
    go_wp2_with fail
    refine (own54 x A1 n1 c1 (Of o 0) _ (BytesAt.stays hD ((Stays.refl _ w1).alloc _)) hdx).mono ?_
    rintro e w2 ⟨A2, n2, c2, rfl, hD2, hb3⟩
    obtain ⟨k1, f1, hs1, hb4⟩ := kept_new hb3
    obtain ⟨k2, f2⟩ := keeps hb4 hs k0 f0
    have hs2 : w.heap.size < w2.heap.size := by omega
    have hb5 : Below w.heap.size w w2 := hb2.trans (hb4.mono (by omega))
    clear k0 f0 hb1 hb2 hb3 hb4 hD
    go_wp2
    refine bodyPost_ret (v := .tuple #[.agg #[.int .i64 x.index, .int .i64 x.term, .int .i64 x.kind, .slice A2 n2 c2], .int .i64 0]) (by simp [results, Try.results24, go_sem, k2]) rfl ?_
    refine ⟨?_, .inr ⟨x, A2, n2, c2, HN.out, rfl, BytesAt.stays hD2 ((Stays.trans (B' := From (w.heap.size + 1)) (Stays.weak _ fun b hb => by simp [From] at *; omega) ((((Stays.refl _ _).setCell (by simp [From]) _).setCell (by simp [From]) _).setCell (by simp [From]) _)).setCell (by simp [From]) _ |>.trans (Stays.weak _ fun b hb => by simp [From] at *; omega))⟩⟩
    repeat (first | exact hb5 | refine Below.setCell ?_ (by simp) _)

theorem Stays.drewN {B B' : Nat → Prop} {w w' : World} (h : Stays B B' w w') (n : Nat) : Stays B B' w (w'.drewN n) := h.trans ⟨Nat.le_refl _, fun _ hb _ => ⟨hb, rfl⟩⟩

theorem SliceOf.cut' {α : Type} {sz : Nat} {R : α → List Value → Prop} {B : Nat → Prop} {w : World} {al : List α} {A : Option Addr} {n c : Nat} (h : SliceOf sz R B w (.slice A n c) al) {k : Nat} (hk : k < n) :
    SliceOf sz R B w (.slice (Option.map ((fun x => x) ∘ fun x => x.add (k * sz)) A) (n - k) (c - k)) (al.drop k) := by
  have h1 := h.cut (Nat.le_of_lt hk)
  rw [if_neg (by have := h.len.2; omega)] at h1
  exact h1

def SliceIs (L : LogM) (i m : Int) (w : World) (e : Ending) (w' : World) : Prop :=
  ∃ A n c, e = .returned (.slice A n c) ∧ EntsAt (From w.heap.size) (From w.heap.size) w' (.slice A n c) (L.slice i m) ∧ Below w.heap.size w w'

theorem drop_take_ok {l : List Ent} {k m : Nat} (hd : ∀ (i : Nat) (hi : i < l.length), l[i].data.length ≤ 30000) : ∀ (i : Nat) (hi : i < ((l.drop k).take m).length), ((l.drop k).take m)[i].data.length ≤ 30000 := by
  intro i hi
  simp only [List.getElem_take, List.getElem_drop]
  exact hd _ _

set_option maxHeartbeats 1000000 in
theorem slice79 (o : Own) (kl : Nat) (b : Nat) (L : LogM) (i m : Int) (w : World) (h : LogAt o kl w b L) (hl : L.ents.length ≤ 20000) (hs0 : 0 ≤ L.sI) (hs1 : L.sI ≤ 30000) (hi0 : 0 ≤ i) (hi1 : i ≤ 100000) (hm0 : 1 ≤ m) (hm1 : m ≤ 30000)
    (hd : ∀ (i : Nat) (hi : i < L.ents.length), L.ents[i].data.length ≤ 30000) :
    Calls Try.prog 79 #[.pointer (some ⟨b, 0, none⟩), .int .i64 i, .int .i64 m] w (SliceIs L i m w) := by
  obtain ⟨A, n, c, A2, n2, c2, hc, hf, hb, hn2, hc2, hM, hE⟩ := h.open_
  go_enter Try.func79, Try.ntmps79
  go_wp2_with fail
  refine (entry53 o kl b L i w h hl hs0 hs1 hi0 hi1).mono ?_
  rintro e w1 ⟨hb1, ⟨hn, rfl⟩ | ⟨x, A1, n1, c1, hn, rfl, hD⟩⟩
  · have HN : Hid (L.slice i m = []) := by unfold Hid LogM.slice; rw [if_pos (by simp [hn])]
    clear hn hn2
    go_wp2
    go_ret
    exact ⟨none, 0, 0, rfl, by rw [HN.out]; exact SliceOf.nil_, by repeat (first | exact hb1 | refine Below.setCell ?_ (by simp) _ | refine below_drewN ?_ _ | refine Below.alloc ?_ hb1.size _ | refine Below.drew ?_)⟩
  · rcases entry_cases L i with ⟨_, h2⟩ | ⟨_, _, h3⟩ | ⟨h1, h2, h3, _, _, _⟩
    · rw [hn] at h2; cases h2
    · rw [hn] at h3; cases h3
    · have HN : Hid (L.slice i m = (L.ents.drop ((i - L.sI).toNat - 1)).take m.toNat) := by
        unfold Hid LogM.slice
        rw [if_neg (by simp [hn]; omega)]
        congr 2
        omega
      clear hn
      have k1 : ∀ i, w1.cell? ⟨b, i, none⟩ = [.int .i64 L.sI, .int .i64 L.sT, .slice A n c, .slice A2 n2 c2, .int .i64 L.commit][i]? := fun i => (hb1.cell (p := ⟨b, i, none⟩) hb).trans (hc i)
      have hb' : b < w1.heap.size := Nat.lt_of_lt_of_le hb hb1.size
      clear hc
      have e1 : IntKind.i64.wrap (i - L.sI) = i - L.sI := IntWalk.i64_in _ (by omega)
      have e2 : IntKind.i64.wrap (i - L.sI - 1) = i - L.sI - 1 := IntWalk.i64_in _ (by omega)
      have b1 : 1 ≤ i - L.sI := by omega
      have b2 : i - L.sI - 1 < n2 := by omega
      have b3 : n2 ≤ 20000 := by omega
      have HN3 := Lib.hid hn2
      clear hn2 h2
      go_wp2
      go_quiet (fail)
      clear e1 e2
      go_wp2_with fail
      · have hs := (SliceOf.cut' (EntsAt.stays hE.slice (Stays.of_below hb1) (Stays.of_below hb1)) (k := (i - L.sI).toNat - 1) (by omega))
        have he : L.slice i m = L.ents.drop ((i - L.sI).toNat - 1) := by rw [HN.out]; exact List.take_of_length_le (by rw [List.length_drop, ← HN3.out]; omega)
        have HN2 := Lib.hid he
        refine (owned87 _ (L.ents.drop ((i - L.sI).toNat - 1)) (Of o kl) (Of o 0) _ ?_ (by rw [List.length_drop]; omega) (fun i hi => by simp only [List.getElem_drop]; exact hd _ _)).mono ?_
        · exact EntsAt.stays hs (((Stays.refl _ w1).alloc _).drewN _) (((Stays.refl _ w1).alloc _).drewN _)
        rintro e w2 ⟨A3, c3, rfl, hE3, hb3⟩
        clear hs he
        go_wp2
        go_ret
        refine ⟨A3, _, c3, rfl, ?_, ?_⟩
        · rw [HN2.out]
          rw [List.length_drop] at hE3
          exact EntsAt.stays hE3 (Stays.weak _ fun b hb => by have := hb1.size; simp [From, World.drewN] at *; omega) (Stays.weak _ fun b hb => by have := hb1.size; simp [From, World.drewN] at *; omega)
        · exact (below_drewN (hb1.alloc hb1.size _) nq).trans (hb3.mono (by have := hb1.size; simp [World.drewN]; omega))
      · have hs := SliceOf.take_ (SliceOf.cut' (EntsAt.stays hE.slice (Stays.of_below hb1) (Stays.of_below hb1)) (k := (i - L.sI).toNat - 1) (by omega)) (k := m.toNat) (c' := c2 - ((i - L.sI).toNat - 1)) (by omega) (by omega)
        refine (owned87 _ ((L.ents.drop ((i - L.sI).toNat - 1)).take m.toNat) (Of o kl) (Of o 0) _ ?_ (by rw [List.length_take, List.length_drop]; omega) (fun i hi => by simp only [List.getElem_take, List.getElem_drop]; exact hd _ _)).mono ?_
        · exact EntsAt.stays hs (((Stays.refl _ w1).alloc _).drewN _) (((Stays.refl _ w1).alloc _).drewN _)
        rintro e w2 ⟨A3, c3, rfl, hE3, hb3⟩
        clear hs
        go_wp2
        go_ret
        refine ⟨A3, _, c3, rfl, ?_, ?_⟩
        · rw [HN.out]
          rw [List.length_take, List.length_drop] at hE3
          exact EntsAt.stays hE3 (Stays.weak _ fun b hb => by have := hb1.size; simp [From, World.drewN] at *; omega) (Stays.weak _ fun b hb => by have := hb1.size; simp [From, World.drewN] at *; omega)
        · exact (below_drewN (hb1.alloc hb1.size _) nq).trans (hb3.mono (by have := hb1.size; simp [World.drewN]; omega))

end Go.Proofs.Ytibkmhacpodceaa

/- Walks: MembersAt, Members, Newer, raftcore's members. -/
namespace Go.Proofs.Ytibkmhacpodceaa
open Go.RowKit

theorem membersOf_snoc (sM : List Int) (l : List Ent) (e : Ent) : LogM.membersOf sM (l ++ [e]) = if e.kind = 3 then e.data else LogM.membersOf sM l := by
  induction l generalizing sM with
  | nil => simp [LogM.membersOf]
  | cons a l ih => simp [LogM.membersOf, ih]

theorem membersOf_take (sM : List Int) (l : List Ent) (k : Nat) (e : Ent) (h : l[k]? = some e) : LogM.membersOf sM (l.take (k + 1)) = if e.kind = 3 then e.data else LogM.membersOf sM (l.take k) := by
  obtain ⟨hk, rfl⟩ := List.getElem?_eq_some_iff.1 h
  rw [List.take_succ_eq_append_getElem hk, membersOf_snoc]

def MemAtIs (l : List Int) (w : World) (e : Ending) (w' : World) : Prop := ∃ A n c, e = .returned (.tuple #[.slice A n c, .int .i64 0]) ∧ IntsAt (From w.heap.size) w' (.slice A n c) l ∧ Below w.heap.size w w'

set_option maxHeartbeats 1000000 in
theorem membersAt50 (o : Own) (kl : Nat) (b : Nat) (L : LogM) (i : Int) (w : World) (h : LogAt o kl w b L) (hl : L.ents.length ≤ 20000) (hs0 : 0 ≤ L.sI) (hs1 : L.sI ≤ 30000) (hi0 : L.sI ≤ i) (hi1 : i - L.sI ≤ L.ents.length)
    (hd : ∀ (i : Nat) (hi : i < L.ents.length), L.ents[i].data.length ≤ 30000) (hm : L.sM.length ≤ 30000) :
    Calls Try.prog 50 #[.pointer (some ⟨b, 0, none⟩), .int .i64 i] w (MemAtIs (LogM.membersOf L.sM (L.ents.take (i - L.sI).toNat)) w) := by
  obtain ⟨A, n, c, A2, n2, c2, hc, hf, hb, hn2, hc2, hM, hE⟩ := h.open_
  have HN2 := Lib.hid hn2
  have b1 : i - L.sI ≤ n2 := by omega
  have b3 : n2 ≤ 20000 := by omega
  have e1 : IntKind.i64.wrap (i - L.sI) = i - L.sI := IntWalk.i64_in _ (by omega)
  clear hn2 hi1 hf
  go_enter Try.func50, Try.ntmps50
  go_wp2
  go_quiet (fail)
  clear e1
  have b4 : 0 ≤ i - L.sI := by omega
  go_wp2
  go_loop [6] (fun s => ∃ z : Int, -1 ≤ z ∧ z < i - L.sI ∧ s = .int .i64 z ∧ Hid (LogM.membersOf L.sM (L.ents.take (i - L.sI).toNat) = LogM.membersOf L.sM (L.ents.take (z + 1).toNat))) (fun s => (intOf s + 1).toNat)
  case atStart => exact ⟨_, by omega, by omega, rfl, by unfold Hid; congr 2; omega⟩
  case round =>
    obtain ⟨z, hz0, hz1, rfl, HI⟩ := hrel
    by_cases hz : 0 ≤ z
    · have hzl : z.toNat < L.ents.length := by have := HN2.out; omega
      obtain ⟨x, hx⟩ : ∃ x, L.ents[z.toNat]? = some x := ⟨_, List.getElem?_eq_getElem hzl⟩
      obtain ⟨g, off, A', n', c', rfl, hg, k0, k1, k2, k3, hD⟩ := EntsAt.at? hE.slice hx
      have hxd : x.data.length ≤ 30000 := by obtain ⟨hk, rfl⟩ := List.getElem?_eq_some_iff.1 hx; exact hd _ _
      have HT := Lib.hid (membersOf_take L.sM _ _ _ hx)
      have HZ : Hid ((z + 1).toNat = z.toNat + 1) := by unfold Hid; omega
      clear hx hzl hd
      have b5 : z < n2 := by omega
      by_cases hk : x.kind = 3
      · have hk1 : (x.kind == 3) = true := by simpa using hk
        have HK := Lib.hid hk
        clear hk
        go_wp2_with fail
        refine (named77 _ x.data (Of o 0) _ (BytesAt.stays hD (Stays.refl _ _ |>.drewN _)) hxd).mono ?_
        rintro e w1 ⟨v1, rfl, hI, hb1⟩
        obtain ⟨A1, c1, rfl, _⟩ := hI.form
        go_wp2
        go_ret2
        refine ⟨A1, _, c1, rfl, ?_, (below_drewN (Below.refl _ w) nq).trans hb1⟩
        rw [HI.out, HZ.out, HT.out, if_pos HK.out]
        exact hI
      · have hk1 : (x.kind == 3) = false := by simpa using hk
        have HK := Lib.hid hk
        clear hk
        go_wp2
        go_round
        case rel => exact ⟨_, by omega, by omega, rfl, by unfold Hid; rw [HI.out, HZ.out, HT.out, if_neg HK.out]; congr 2; omega⟩
        case measure => simp [intOf]; omega
    · have HZ : Hid ((z + 1).toNat = 0) := by unfold Hid; omega
      go_wp2_with fail
      refine (clone27 _ L.sM (Of o 0) _ (IntsAt.stays hM (Stays.refl _ _ |>.drewN _)) hm).mono ?_
      rintro e w1 ⟨v1, rfl, hI, hb1⟩
      obtain ⟨A1, c1, rfl, _⟩ := hI.form
      go_wp2
      go_ret2
      refine ⟨A1, _, c1, rfl, ?_, (below_drewN (Below.refl _ w) nq).trans hb1⟩
      rw [HI.out, HZ.out]
      exact hI

end Go.Proofs.Ytibkmhacpodceaa

/- Walks: Members, Newer, Settle, Changing, raftcore's members, Start, Copy, New. -/
namespace Go.Proofs.Ytibkmhacpodceaa
open Go.RowKit

theorem LogM.Ok.last1 {L : LogM} (h : L.Ok) : L.last.1 = L.sI + L.ents.length := by
  rcases Nat.eq_zero_or_pos L.ents.length with h0 | h0
  · rw [last_nil h0, h0]; simp
  · obtain ⟨m, hm⟩ : ∃ m, L.ents.length = m + 1 := ⟨L.ents.length - 1, by omega⟩
    obtain ⟨x, hx, hl⟩ := last_some hm
    obtain ⟨hk, rfl⟩ := List.getElem?_eq_some_iff.1 hx
    rw [hl, (h.ent m hk).2, hm]
    simp; omega
theorem LogM.Ok.data {L : LogM} (h : L.Ok) : ∀ (i : Nat) (hi : i < L.ents.length), L.ents[i].data.length ≤ 30000 := fun i hi => by have := (h.ent i hi).1.d; omega
theorem LogM.Ok.last2 {L : LogM} (h : L.Ok) : 0 ≤ L.last.2 ∧ L.last.2 ≤ 30000 := by
  rcases Nat.eq_zero_or_pos L.ents.length with h0 | h0
  · rw [last_nil h0]; exact ⟨h.t0, h.t1⟩
  · obtain ⟨m, hm⟩ : ∃ m, L.ents.length = m + 1 := ⟨L.ents.length - 1, by omega⟩
    obtain ⟨x, hx, hl⟩ := last_some hm
    obtain ⟨hk, rfl⟩ := List.getElem?_eq_some_iff.1 hx
    rw [hl]
    exact ⟨(h.ent m hk).1.t0, (h.ent m hk).1.t1⟩

def MembersIs (l : List Int) (w : World) (e : Ending) (w' : World) : Prop := ∃ A n c, e = .returned (.slice A n c) ∧ IntsAt (From w.heap.size) w' (.slice A n c) l ∧ Below w.heap.size w w'

set_option maxHeartbeats 1000000 in
theorem members17 (o : Own) (kl : Nat) (b : Nat) (L : LogM) (w : World) (h : LogAt o kl w b L) (hok : L.Ok) :
    Calls Try.prog 17 #[.pointer (some ⟨b, 0, none⟩)] w (MembersIs L.members w) := by
  have HOK := Lib.hid hok
  have hl := hok.len
  have HE : Hid (LogM.membersOf L.sM (L.ents.take (L.last.1 - L.sI).toNat) = L.members) := by
    unfold Hid LogM.members
    rw [hok.last1, List.take_of_length_le (by omega)]
  clear hok
  go_enter Try.func17, Try.ntmps17
  go_wp2_with fail
  refine (last28 o kl b L w h hl).mono ?_
  rintro e w1 ⟨rfl, hb1⟩
  have h1 : LogAt o kl w1 b L := by
    obtain ⟨A, n, c, A2, n2, c2, hb, ho, hm, hr⟩ := h
    exact ⟨A, n, c, A2, n2, c2, hb.same (hb1.block b hb.lt), ho, IntsAt.stays hm (Stays.of_below hb1), hr.stays (Stays.of_below hb1) fun _ _ => EntR.stays (Stays.of_below hb1)⟩
  go_wp2_with fail
  have hok := HOK.out
  refine (membersAt50 o kl b L L.last.1 w1 h1 hl hok.i0 hok.i1 (by rw [hok.last1]; omega) (by rw [hok.last1]; omega) hok.data (by have := hok.mlen; omega)).mono ?_
  rintro e w2 ⟨A, n, c, rfl, hI, hb2⟩
  rw [HE.out] at hI
  clear hok
  go_wp2
  go_ret
  exact ⟨A, n, c, rfl, IntsAt.stays hI (Stays.weak _ fun b hb => by have := hb1.size; simp [From] at *; omega), hb1.trans (hb2.mono hb1.size)⟩

/-- the log is as it was, in a world that has only grown -/
theorem LogAt.below {o : Own} {kl : Nat} {w w1 : World} {b : Nat} {L : LogM} (h : LogAt o kl w b L) (hb1 : Below w.heap.size w w1) : LogAt o kl w1 b L := by
  obtain ⟨A, n, c, A2, n2, c2, hb, ho, hm, hr⟩ := h
  exact ⟨A, n, c, A2, n2, c2, hb.same (hb1.block b hb.lt), ho, IntsAt.stays hm (Stays.of_below hb1), hr.stays (Stays.of_below hb1) fun _ _ => EntR.stays (Stays.of_below hb1)⟩

set_option maxHeartbeats 1000000 in
theorem newer66 (o : Own) (kl : Nat) (b : Nat) (L : LogM) (i t : Int) (w : World) (h : LogAt o kl w b L) (hl : L.ents.length ≤ 20000) :
    Calls Try.prog 66 #[.pointer (some ⟨b, 0, none⟩), .int .i64 i, .int .i64 t] w fun e w' => e = .returned (.bool (L.newer i t)) ∧ Below w.heap.size w w' := by
  have HN := Lib.hid (show L.newer i t = (decide (L.last.2 < t) || (decide (t = L.last.2) && decide (L.last.1 ≤ i))) from rfl)
  go_enter Try.func66, Try.ntmps66
  go_wp2_with fail
  refine (last28 o kl b L w h hl).mono ?_
  rintro e w1 ⟨rfl, hb1⟩
  generalize L.last.1 = a at *
  generalize L.last.2 = c at *
  go_wp2
  all_goals
    go_ret
    refine ⟨ret_bool ?_, hb1⟩
    rw [HN.out]
    simp_all
    try omega

/-- a row, when a cell of another kind of block is written -/
theorem RowOf.far {α : Type} {sz : Nat} {R R' : α → List Value → Prop} {E t : TypeId} {o : Own} {k : Nat} {w : World} {v : Value} {al : List α} {p : Addr} {cs : List Value} (h : RowOf sz R E o k w v al) (hB : Blk w p.block t cs) (ht : E ≠ t) (u : Value)
    (hR : ∀ a cs, R a cs → R' a cs) : RowOf sz R' E o k (w.setCell p u) v al := by
  obtain ⟨A, c, xs, rfl, hc, hm, he, hp⟩ := h
  refine ⟨A, c, xs, rfl, hc, hm, he.imp hR, fun h0 => ?_⟩
  obtain ⟨g, cur, hA, ho, hg, hsz, hx⟩ := hp h0
  have hne : g ≠ p.block := Blk.ne_ (cs := cur.toList) (show Blk w g E cur.toList by unfold Blk; simpa using hg) hB ht
  exact ⟨g, cur, hA, ho, (Below.heap_setCell w p u g hne).trans hg, hsz, hx⟩

theorem LogAt.setCommit {o : Own} {kl : Nat} {w : World} {b : Nat} {L : LogM} (h : LogAt o kl w b L) (h0 : kl ≠ 0) (c : Int) : LogAt o kl (w.setCell ⟨b, 4, none⟩ (.int .i64 c)) b { L with commit := c } := by
  obtain ⟨A, n, cc, A2, n2, c2, hb, ho, hm, hr⟩ := h
  have hs : Stays (Of o 0) (Of o 0) w (w.setCell ⟨b, 4, none⟩ (.int .i64 c)) := (Stays.refl _ w).setCell (by simp [Of, ho, h0]) _
  exact ⟨A, n, cc, A2, n2, c2, hb.set_ 4 _, ho, IntsAt.stays hm hs, hr.far hb (by simp) _ fun _ _ => EntR.stays hs⟩

set_option maxHeartbeats 1000000 in
theorem settle73 (o : Own) (kl : Nat) (b : Nat) (L : LogM) (i : Int) (w : World) (h : LogAt o kl w b L) (hl : L.ents.length ≤ 20000) (h0 : kl ≠ 0) (hw : Wf o w) :
    Calls Try.prog 73 #[.pointer (some ⟨b, 0, none⟩), .int .i64 i] w fun e w' => (∃ n, e = .returned (.int .i64 n)) ∧ LogAt o kl w' b (L.settle i) ∧ Ext [kl] o o w w' := by
  go_enter Try.func73, Try.ntmps73
  go_wp2_with fail
  refine (last28 o kl b L w h hl).mono ?_
  rintro e w1 ⟨rfl, hb1⟩
  have H1 := Lib.hid (h.below hb1)
  by_cases hlt : L.last.1 < i
  · have HS : Hid (L.settle i = L) := by unfold Hid LogM.settle; rw [if_pos hlt]
    go_wp2
    go_ret
    refine ⟨⟨_, rfl⟩, ?_, Ext.of_below hb1 hw⟩
    rw [HS.out]; exact H1.out
  · have HS : Hid (L.settle i = { L with commit := max L.commit i }) := by unfold Hid LogM.settle; rw [if_neg hlt]
    obtain ⟨A, n, c, A2, n2, c2, hc, hf, hb, hn2, hc2, hM, hE⟩ := H1.out.open_
    clear hn2
    have ho : Hid (o b = kl) := by obtain ⟨_, _, _, _, _, _, _, ho, _⟩ := h; exact ho
    go_wp2
    all_goals
      go_ret
      refine ⟨⟨_, rfl⟩, ?_, (Ext.of_below hb1 hw).setCell (.inr (by simp [ho.out])) _⟩
      rw [HS.out]
      first
        | (rw [show max L.commit i = i by omega]; exact H1.out.setCommit h0 _)
        | (rw [show max L.commit i = L.commit by omega]; exact H1.out.setCommit h0 _)

/-! Changing: a closure over the log -/

set_option maxHeartbeats 1000000 in
theorem changing76 (o : Own) (kl : Nat) (b p : Nat) (L : LogM) (x : Ent) (A : Option Addr) (n c : Nat) (w : World) (h : LogAt o kl w b L) (hp : w.cell? ⟨p, 0, none⟩ = some (.pointer (some ⟨b, 0, none⟩))) :
    Calls Try.prog 76 #[.agg #[.int .i64 x.index, .int .i64 x.term, .int .i64 x.kind, .slice A n c], .pointer (some ⟨p, 0, none⟩)] w fun e w' => e = .returned (.bool (decide (x.kind = 3 ∧ L.commit < x.index))) ∧ Below w.heap.size w w' := by
  obtain ⟨A2, n2, c2, A3, n3, c3, hc, hf, hb, hn2, hc2, hM, hE⟩ := h.open_
  have hpl := World.block_lt_of_cell? _ _ hp
  simp only at hpl
  clear hn2
  by_cases hk : x.kind = 3
  · have hk1 : (x.kind == 3) = true := by simpa using hk
    have HK := Lib.hid hk
    clear hk
    go_enter Try.func76, Try.ntmps76
    go_wp2
    go_quiet (fail)
    go_wp2
    go_ret
    refine ⟨ret_bool (by simp [HK.out]), by repeat (first | exact Below.refl _ _ | refine below_drewN ?_ _ | refine Below.alloc ?_ (by simp) _)⟩
  · have hk1 : (x.kind == 3) = false := by simpa using hk
    have HK := Lib.hid hk
    clear hk
    go_enter Try.func76, Try.ntmps76
    go_wp2
    go_quiet (fail)
    go_wp2
    go_ret
    refine ⟨ret_bool (by simp [HK.out]), by repeat (first | exact Below.refl _ _ | refine below_drewN ?_ _ | refine Below.alloc ?_ (by simp) _)⟩

end Go.Proofs.Ytibkmhacpodceaa

/- Walks: Changing, Start, Copy, New, raftcore's members. -/
namespace Go.Proofs.Ytibkmhacpodceaa
open Go.RowKit

def isChange (L : LogM) (e : Ent) : Bool := decide (e.kind = 3 ∧ L.commit < e.index)
def FoundEnt (L : LogM) (w : World) (e : Ending) (w' : World) : Prop := ∃ n : Int, e = .returned (.int .i64 n) ∧ decide (0 ≤ n) = L.ents.any (isChange L) ∧ Below w.heap.size w w'

theorem any_take_succ (L : LogM) (k : Nat) (x : Ent) (h : L.ents[k]? = some x) : (L.ents.take (k + 1)).any (isChange L) = ((L.ents.take k).any (isChange L) || isChange L x) := by
  obtain ⟨hk, rfl⟩ := List.getElem?_eq_some_iff.1 h
  rw [List.take_succ_eq_append_getElem hk, List.any_append]
  simp
theorem any_of_mem (L : LogM) (k : Nat) (x : Ent) (h : L.ents[k]? = some x) (hx : isChange L x = true) : L.ents.any (isChange L) = true := by
  obtain ⟨hk, rfl⟩ := List.getElem?_eq_some_iff.1 h
  exact List.any_eq_true.2 ⟨_, List.getElem_mem hk, hx⟩

set_option maxHeartbeats 1000000 in
theorem indexFunc89 (o : Own) (kl : Nat) (b p : Nat) (L : LogM) (A : Option Addr) (n c : Nat) (w : World) (h : LogAt o kl w b L) (hp : w.cell? ⟨p, 0, none⟩ = some (.pointer (some ⟨b, 0, none⟩))) (hl : L.ents.length ≤ 20000)
    (hv : EntsAt (Of o kl) (Of o 0) w (.slice A n c) L.ents) :
    Calls Try.prog 89 #[.slice A n c, .func (.func 76) #[] #[.pointer (some ⟨p, 0, none⟩)]] w (FoundEnt L w) := by
  have hn := hv.len.1
  have hc := hv.len.2
  have HN := Lib.hid hn
  have hn2 : n ≤ 20000 := by omega
  have hpl := World.block_lt_of_cell? _ _ hp
  simp only at hpl
  clear hn
  go_enter Try.func89, Try.ntmps89
  go_wp2
  go_loopw [8] (fun i wr => ∃ k : Nat, k ≤ n ∧ i = .int .i64 k ∧ Hid ((L.ents.take k).any (isChange L) = false) ∧ Below w.heap.size w wr) (fun i _ => n - (intOf i).toNat)
  case atStart => exact ⟨0, Nat.zero_le _, rfl, by unfold Hid; simp, Below.refl _ _⟩
  case round =>
    obtain ⟨k, hk, rfl, HI, hb⟩ := hrel
    by_cases hlt : k < n
    · obtain ⟨x, hx⟩ : ∃ x, L.ents[k]? = some x := ⟨_, List.getElem?_eq_getElem (by have := HN.out; omega)⟩
      obtain ⟨g, off, A', n', c', rfl, hg, k0, k1, k2, k3, hD⟩ := EntsAt.at? (EntsAt.stays hv (Stays.of_below hb) (Stays.of_below hb)) hx
      have HX := Lib.hid hx
      have hpr : wr.cell? ⟨p, 0, none⟩ = some (.pointer (some ⟨b, 0, none⟩)) := (hb.cell (p := ⟨p, 0, none⟩) hpl).trans hp
      clear hx
      have hcall := changing76 o kl b p L x A' n' c' wr (h.below hb) hpr
      change Calls Try.prog 76 _ wr (fun e w' => e = .returned (.bool (isChange L x)) ∧ Below wr.heap.size wr w') at hcall
      have HC := Lib.hid hcall
      clear hcall hpr hp
      cases hq : isChange L x
      · rw [hq] at HC
        have HQ := Lib.hid hq
        clear hq
        go_wp2_with fail
        refine HC.out.mono ?_
        rintro e w1 ⟨rfl, hb1⟩
        go_wp2
        go_roundw
        case rel => exact ⟨k + 1, by omega, by go_num, by unfold Hid; rw [any_take_succ L k x HX.out, HI.out, HQ.out]; rfl, hb.trans (hb1.mono hb.size)⟩
        case measure => simp [intOf]; omega
      · rw [hq] at HC
        have HQ := Lib.hid (any_of_mem L k x HX.out hq)
        clear hq
        go_wp2_with fail
        refine HC.out.mono ?_
        rintro e w1 ⟨rfl, hb1⟩
        go_wp2
        go_ret
        exact ⟨k, rfl, by rw [HQ.out]; simp, hb.trans (hb1.mono hb.size)⟩
    · obtain rfl : k = n := by omega
      have HQ : Hid (L.ents.any (isChange L) = false) := by
        have := HI.out
        rwa [List.take_of_length_le (by rw [← HN.out]; omega)] at this
      go_wp2
      go_ret
      exact ⟨-1, rfl, by rw [HQ.out]; simp, hb⟩

set_option maxHeartbeats 1000000 in
theorem contains75 (o : Own) (kl : Nat) (b p : Nat) (L : LogM) (A : Option Addr) (n c : Nat) (w : World) (h : LogAt o kl w b L) (hp : w.cell? ⟨p, 0, none⟩ = some (.pointer (some ⟨b, 0, none⟩))) (hl : L.ents.length ≤ 20000)
    (hv : EntsAt (Of o kl) (Of o 0) w (.slice A n c) L.ents) :
    Calls Try.prog 75 #[.slice A n c, .func (.func 76) #[] #[.pointer (some ⟨p, 0, none⟩)]] w fun e w' => e = .returned (.bool L.changing) ∧ Below w.heap.size w w' := by
  have HC : Hid (L.changing = L.ents.any (isChange L)) := rfl
  have HI := Lib.hid (indexFunc89 o kl b p L A n c w h hp hl hv)
  clear hp
  go_enter Try.func75, Try.ntmps75
  go_wp2_with fail
  refine HI.out.mono ?_
  rintro e w1 ⟨m, rfl, hm, hb⟩
  have HM := Lib.hid hm
  clear hm
  go_wp2
  go_ret
  exact ⟨ret_bool (by rw [HC.out, ← HM.out]), hb⟩

set_option maxHeartbeats 1000000 in
theorem changing48 (o : Own) (kl : Nat) (b : Nat) (L : LogM) (w : World) (h : LogAt o kl w b L) (hl : L.ents.length ≤ 20000) :
    Calls Try.prog 48 #[.pointer (some ⟨b, 0, none⟩)] w fun e w' => e = .returned (.bool L.changing) ∧ Below w.heap.size w w' := by
  have H := Lib.hid h
  obtain ⟨A2, n2, c2, A3, n3, c3, hc, hf, hb, hn2, hc2, hM, hE⟩ := h.open_
  clear hn2
  have hba : Below w.heap.size w (w.alloc (.cells #[.pointer (some ⟨b, 0, none⟩)] 31)) := (Below.refl _ _).alloc (Nat.le_refl _) _
  have HC := Lib.hid (contains75 o kl b w.heap.size L A3 n3 c3 _ (h.below hba) (by simp) hl (EntsAt.stays hE.slice (Stays.of_below hba) (Stays.of_below hba)))
  go_enter Try.func48, Try.ntmps48
  go_wp2_with fail
  refine HC.out.mono ?_
  rintro e w1 ⟨rfl, hb1⟩
  go_wp2
  go_ret
  exact ⟨rfl, hba.trans (hb1.mono (by simp))⟩

end Go.Proofs.Ytibkmhacpodceaa
