/- A region that draws its order: loads taken first though the region's LAST operation writes what they read. The condition S on the world is asked behind each operation but that one. -/
import Derived.OrdersHeld
import Derived.Deep.RegionHeld3
namespace Go.Proofs.Ytibkmhacpodceaa
section
variable {P : Program} {ops : Array Oper} {Q : Exit → Act → World → Prop} {md : Region.Mode} {S : World → Prop} {last : Nat}

/-- Whatever order is picked from here on; S holds behind every operation but number 'last'. -/
def anyT (P : Program) (md : Region.Mode) (ops : Array Oper) (Q : Exit → Act → World → Prop) (S : World → Prop) (last : Nat) : Nat → Array Bool → Act → World → Prop
  | 0, listed, a, w => Region.ready md ops listed = [] ∧ Q .normal a w
  | fuel + 1, listed, a, w =>
    (Region.ready md ops listed = [] → Q .normal a w) ∧
    ∀ i ∈ Region.ready md ops listed, wpOp P ops Q i (fun a' w' => (i = last ∨ S w') ∧ anyT P md ops Q S last fuel (listed.setIfInBounds i true) a' w') a w

theorem anyT_any : ∀ (fuel : Nat) (listed : Array Bool) (a : Act) (w : World), anyT P md ops Q S last fuel listed a w → wpAny P md ops Q fuel listed a w
  | 0, _, _, _, h => h
  | fuel + 1, _, _, _, h => ⟨h.1, fun i hi => wpOp_mono (fun a' w' h' => anyT_any fuel _ a' w' h'.2) (h.2 i hi)⟩

/-- does number j wait for number i, straight or through others? -/
def reachB (md : Region.Mode) (ops : Array Oper) : Nat → Nat → Nat → Bool
  | 0, j, i => j == i
  | n + 1, j, i => j == i || match ops[j]? with
    | some o => o.after.any fun e => Region.binds md e && (decide (i ≤ e.on) && reachB md ops n e.on i)
    | none => false
def waits (md : Region.Mode) (ops : Array Oper) (last i : Nat) : Bool := !(last == i) && reachB md ops ops.size last i
/-- what is listed waits for nothing that is not -/
def Closed (md : Region.Mode) (ops : Array Oper) (listed : Array Bool) : Prop :=
  ∀ j o, ops[j]? = some o → listed.getD j true = true → ∀ e ∈ o.after, Region.binds md e = true → listed.getD e.on true = true
def closedB (md : Region.Mode) (ops : Array Oper) (listed : Array Bool) : Bool :=
  (List.range ops.size).all fun j => match ops[j]? with
    | some o => !listed.getD j true || o.after.all fun e => !Region.binds md e || listed.getD e.on true
    | none => true
theorem closedB_spec {md : Region.Mode} {ops : Array Oper} {listed : Array Bool} (h : closedB md ops listed = true) : Closed md ops listed := by
  intro j o ho hl e he hb
  have hj : j < ops.size := by
    rcases Nat.lt_or_ge j ops.size with h' | h'
    · exact h'
    · rw [Array.getElem?_eq_none h'] at ho; cases ho
  have h1 := List.all_eq_true.1 h j (List.mem_range.2 hj)
  simp only [ho, hl, Bool.not_true, Bool.false_or] at h1
  have h2 := Array.all_eq_true'.1 h1 e he
  simpa [hb] using h2
theorem getD_set_true {listed : Array Bool} (i j : Nat) (h : listed.getD j true = true) : (listed.setIfInBounds i true).getD j true = true := by
  by_cases hij : i = j
  · subst hij
    rcases Nat.lt_or_ge i listed.size with h' | h'
    · simp [Array.getD, h']
    · simp [Array.getD, Nat.not_lt.2 h']
  · rw [getD_set_ne true hij]; exact h
theorem getD_up {l : Array Bool} {j : Nat} (h : l.getD j false = true) : l.getD j true = true := by
  rcases Nat.lt_or_ge j l.size with h' | h'
  · simp [Array.getD, h'] at h ⊢; exact h
  · simp [Array.getD, Nat.not_lt.2 h'] at h
theorem Closed.list {md : Region.Mode} {ops : Array Oper} {listed : Array Bool} {i : Nat} (h : Closed md ops listed) (hr : i ∈ Region.ready md ops listed) : Closed md ops (listed.setIfInBounds i true) := by
  intro j o ho hl e he hb
  by_cases hij : i = j
  · subst hij
    obtain ⟨_, o', ho', hall⟩ := mem_ready.1 hr
    obtain rfl : o' = o := by rw [ho] at ho'; exact (Option.some.inj ho').symm
    exact getD_set_true _ _ (getD_up (hall e he hb))
  · rw [getD_set_ne true hij] at hl
    exact getD_set_true _ _ (h j o ho hl e he hb)
theorem Closed.reach {md : Region.Mode} {ops : Array Oper} {listed : Array Bool} {i : Nat} (h : Closed md ops listed) (hi : listed.getD i true = false) :
    ∀ n j, reachB md ops n j i = true → listed.getD j true = false := by
  intro n
  induction n with
  | zero => intro j hj; simp only [reachB, beq_iff_eq] at hj; subst hj; exact hi
  | succ n ih =>
    intro j hj
    rw [reachB, Bool.or_eq_true] at hj
    rcases hj with hj | hj
    · simp only [beq_iff_eq] at hj; subst hj; exact hi
    · cases ho : ops[j]? with
      | none => rw [ho] at hj; cases hj
      | some o =>
        rw [ho] at hj
        obtain ⟨e, he, hb⟩ := Array.any_eq_true'.1 hj
        simp only [Bool.and_eq_true] at hb
        have h1 := ih e.on hb.2.2
        cases hq : listed.getD j true with
        | false => rfl
        | true => rw [h j o ho hq e he hb.1] at h1; cases h1
theorem Closed.waits_ {md : Region.Mode} {ops : Array Oper} {listed : Array Bool} {i last : Nat} (h : Closed md ops listed) (hi : i ∈ Region.ready md ops listed) (hw : waits md ops last i = true) : last ∉ Region.ready md ops listed := by
  intro hl
  obtain ⟨_, o, ho, hall⟩ := mem_ready.1 hl
  have hi0 := (mem_ready.1 hi).1
  unfold waits at hw
  rw [Bool.and_eq_true] at hw
  obtain ⟨hne, hr⟩ := hw
  cases hn : ops.size with
  | zero => rw [hn] at hr; simp only [reachB, beq_iff_eq] at hr; simp [hr] at hne
  | succ n =>
    rw [hn, reachB, Bool.or_eq_true] at hr
    rcases hr with hr | hr
    · rw [hr] at hne; cases hne
    · rw [ho] at hr
      obtain ⟨e, he, hb⟩ := Array.any_eq_true'.1 hr
      simp only [Bool.and_eq_true] at hb
      have h1 := h.reach hi0 n e.on hb.2.2
      rw [getD_up (hall e he hb.1)] at h1
      cases h1

theorem anyT_first {i : Nat} {oi : Oper} {v : Value} (hi : ops[i]? = some oi) (hsel : ∀ (j : Nat) (o : Oper) cs b, ops[j]? = some o → o.op ≠ .select cs b)
    (hQ : ∀ c a w, Q (.panic c) (a.put oi.dst v) w → Q (.panic c) a w) (hwait : waits md ops last i = true) :
    ∀ (fuel : Nat) (listed : Array Bool) (a : Act) (w : World), Closed md ops listed →
      (∀ j oj, ops[j]? = some oj → j ≠ i → listed.getD j true = false → (∀ e ∈ oj.after, Region.binds md e = true → e.on ≠ i) → oi.apart ops oj = true) →
      i ∈ Region.ready md ops listed → YieldsIf P ops S oi v a → S w →
      anyT P md ops Q S last fuel (listed.setIfInBounds i true) (a.put oi.dst v) w → anyT P md ops Q S last (fuel + 1) listed a w := by
  have hnl : ∀ (listed : Array Bool), Closed md ops listed → i ∈ Region.ready md ops listed → ∀ j, j ∈ Region.ready md ops listed → j ≠ last := by
    rintro listed hcl hr j hj rfl
    exact hcl.waits_ hr hwait hj
  intro fuel
  induction fuel with
  | zero =>
    intro listed a w _ _ hr hy hS H
    refine ⟨fun h => (by rw [h] at hr; cases hr), fun j hj => ?_⟩
    by_cases hji : j = i
    · subst hji; exact hy.wpOp hi hS ⟨.inr hS, H⟩
    · have := ready_mono hj hji
      rw [H.1] at this
      cases this
  | succ fuel ih =>
    intro listed a w hcl hfree hr hy hS H
    refine ⟨fun h => (by rw [h] at hr; cases hr), fun j hj => ?_⟩
    by_cases hji : j = i
    · subst hji; exact hy.wpOp hi hS ⟨.inr hS, H⟩
    · have h1 := H.2 j (ready_mono hj hji)
      have hjl := hnl listed hcl hr j hj
      obtain ⟨hjun, oj, hoj, hall⟩ := mem_ready.1 hj
      have hnot : ∀ e ∈ oj.after, Region.binds md e = true → e.on ≠ i := fun e he hb heq => by
        have h1 := hall e he hb
        have h0 := (mem_ready.1 hr).1
        rw [heq] at h1
        rcases Nat.lt_or_ge i listed.size with h' | h'
        · simp [h'] at h0 h1; rw [h0] at h1; cases h1
        · simp [Array.getElem?_eq_none h'] at h1
      have h2 := wpOp_putIf hoj (hfree j oj hoj hji hjun hnot) (fun cs b => hsel i oi cs b hi) (fun cs b => hsel j oj cs b hoj) hQ hy h1
      have hfree' : ∀ k ok, ops[k]? = some ok → k ≠ i → (listed.setIfInBounds j true).getD k true = false →
          (∀ e ∈ ok.after, Region.binds md e = true → e.on ≠ i) → oi.apart ops ok = true := fun k ok hk hki hun hno => by
        refine hfree k ok hk hki ?_ hno
        by_cases hjk : j = k
        · subst hjk; exact hjun
        · rw [getD_set_ne true hjk] at hun; exact hun
      refine wpOp_mono (fun a' w' h3 => ?_) h2
      have hS' : S w' := h3.2.1.resolve_left hjl
      refine ⟨.inr hS', ih (listed.setIfInBounds j true) a' w' (hcl.list hj) hfree' (ready_mono hr (Ne.symm hji)) h3.1 hS' ?_⟩
      rw [Array.setIfInBounds_comm _ _ hji]
      exact h3.2.2

/-- Take number i first. -/
theorem anyT_take {i : Nat} {oi : Oper} {v : Value} {fuel : Nat} {listed : Array Bool} {a : Act} {w : World} (hi : ops[i]? = some oi)
    (hs : Region.noSelect ops = true) (hf : Region.free md ops listed i = true) (hr : (Region.ready md ops listed).contains i = true) (hwait : waits md ops last i = true) (hcl : closedB md ops listed = true)
    (hQ : ∀ c a w, Q (.panic c) (a.put oi.dst v) w → Q (.panic c) a w) (hy : YieldsIf P ops S oi v a) (hS : S w)
    (h : anyT P md ops Q S last fuel (listed.setIfInBounds i true) (a.put oi.dst v) w) : anyT P md ops Q S last (fuel + 1) listed a w :=
  anyT_first hi (Region.noSelect_spec hs) hQ hwait fuel listed a w (closedB_spec hcl) (Region.free_spec hi hf) (by simpa using hr) hy hS h

/-- Only number i can come up. -/
theorem anyT_one {i : Nat} {oi : Oper} {fuel : Nat} {listed : Array Bool} {a : Act} {w : World} (hi : ops[i]? = some oi) (hr : Region.ready md ops listed = [i])
    (h : ∀ K : Act → World → Prop, (∀ a w, (i = last ∨ S w) → anyT P md ops Q S last fuel (listed.setIfInBounds i true) a w → K a w) → if Region.wanted oi (yielded ops a.tmps) = true then Oper.wp P oi a w K Q else K (a.put oi.dst undef) w) :
    anyT P md ops Q S last (fuel + 1) listed a w := by
  refine ⟨fun h0 => (by rw [hr] at h0; cases h0), fun j hj => ?_⟩
  rw [hr] at hj
  obtain rfl : j = i := by simpa using hj
  exact wpOp_step hi fun K' hK => h K' fun a w h1 h2 => hK a w ⟨h1, h2⟩

/-- The same, the operation found in the written-out list. -/
theorem anyT_takeL {opsL : List Oper} {i : Nat} {oi : Oper} {v : Value} {fuel : Nat} {listed : Array Bool} {a : Act} {w : World} (hi : opsL[i]? = some oi)
    (hs : Region.noSelect opsL.toArray = true) (hf : Region.free md opsL.toArray listed i = true) (hr : (Region.ready md opsL.toArray listed).contains i = true) (hwait : waits md opsL.toArray last i = true) (hcl : closedB md opsL.toArray listed = true)
    (hQ : ∀ c a w, Q (.panic c) (a.put oi.dst v) w → Q (.panic c) a w) (hy : YieldsIf P opsL.toArray S oi v a) (hS : S w)
    (h : anyT P md opsL.toArray Q S last fuel (listed.setIfInBounds i true) (a.put oi.dst v) w) : anyT P md opsL.toArray Q S last (fuel + 1) listed a w :=
  anyT_take (by simpa using hi) hs hf hr hwait hcl hQ hy hS h

theorem anyT_oneL {opsL : List Oper} {i : Nat} {oi : Oper} {fuel : Nat} {listed : Array Bool} {a : Act} {w : World} (hi : opsL[i]? = some oi) (hr : Region.ready md opsL.toArray listed = [i])
    (h : ∀ K : Act → World → Prop, (∀ a w, (i = last ∨ S w) → anyT P md opsL.toArray Q S last fuel (listed.setIfInBounds i true) a w → K a w) → if Region.wanted oi (yielded opsL.toArray a.tmps) = true then Oper.wp P oi a w K Q else K (a.put oi.dst undef) w) :
    anyT P md opsL.toArray Q S last (fuel + 1) listed a w :=
  anyT_one (by simpa using hi) hr h

theorem anyT_done {listed : Array Bool} {a : Act} {w : World} (hr : Region.ready md ops listed = []) (h : Q .normal a w) : ∀ fuel, anyT P md ops Q S last fuel listed a w
  | 0 => ⟨hr, h⟩
  | _ + 1 => ⟨fun _ => h, by rw [hr]; simp⟩

theorem wp_region_T {id : Nat} {a : Act} {w : World} (last : Nat) (S : World → Prop) (hm : P.follows .mixedOrders = true)
    (h : anyT P .any ops Q S last ops.size (Array.replicate ops.size false) a w.drew) : (Code.region id ops true).wp P Q a w :=
  wp_region_any hm (anyT_any _ _ _ _ h)
end
end Go.Proofs.Ytibkmhacpodceaa

/- AnyT's take where S holds behind every operation: 'last' is no operation's number. -/
namespace Go.Proofs.Ytibkmhacpodceaa
section
variable {P : Program} {ops : Array Oper} {Q : Exit → Act → World → Prop} {md : Region.Mode} {S : World → Prop} {last : Nat}

theorem anyN_first {i : Nat} {oi : Oper} {v : Value} (hi : ops[i]? = some oi) (hsel : ∀ (j : Nat) (o : Oper) cs b, ops[j]? = some o → o.op ≠ .select cs b)
    (hQ : ∀ c a w, Q (.panic c) (a.put oi.dst v) w → Q (.panic c) a w) (hwait : ops.size ≤ last) :
    ∀ (fuel : Nat) (listed : Array Bool) (a : Act) (w : World), Closed md ops listed →
      (∀ j oj, ops[j]? = some oj → j ≠ i → listed.getD j true = false → (∀ e ∈ oj.after, Region.binds md e = true → e.on ≠ i) → oi.apart ops oj = true) →
      i ∈ Region.ready md ops listed → YieldsIf P ops S oi v a → S w →
      anyT P md ops Q S last fuel (listed.setIfInBounds i true) (a.put oi.dst v) w → anyT P md ops Q S last (fuel + 1) listed a w := by
  have hnl : ∀ (listed : Array Bool), Closed md ops listed → i ∈ Region.ready md ops listed → ∀ j, j ∈ Region.ready md ops listed → j ≠ last := by
    rintro listed _ _ j hj rfl
    obtain ⟨_, o, ho, _⟩ := mem_ready.1 hj
    rw [Array.getElem?_eq_none hwait] at ho
    cases ho
  intro fuel
  induction fuel with
  | zero =>
    intro listed a w _ _ hr hy hS H
    refine ⟨fun h => (by rw [h] at hr; cases hr), fun j hj => ?_⟩
    by_cases hji : j = i
    · subst hji; exact hy.wpOp hi hS ⟨.inr hS, H⟩
    · have := ready_mono hj hji
      rw [H.1] at this
      cases this
  | succ fuel ih =>
    intro listed a w hcl hfree hr hy hS H
    refine ⟨fun h => (by rw [h] at hr; cases hr), fun j hj => ?_⟩
    by_cases hji : j = i
    · subst hji; exact hy.wpOp hi hS ⟨.inr hS, H⟩
    · have h1 := H.2 j (ready_mono hj hji)
      have hjl := hnl listed hcl hr j hj
      obtain ⟨hjun, oj, hoj, hall⟩ := mem_ready.1 hj
      have hnot : ∀ e ∈ oj.after, Region.binds md e = true → e.on ≠ i := fun e he hb heq => by
        have h1 := hall e he hb
        have h0 := (mem_ready.1 hr).1
        rw [heq] at h1
        rcases Nat.lt_or_ge i listed.size with h' | h'
        · simp [h'] at h0 h1; rw [h0] at h1; cases h1
        · simp [Array.getElem?_eq_none h'] at h1
      have h2 := wpOp_putIf hoj (hfree j oj hoj hji hjun hnot) (fun cs b => hsel i oi cs b hi) (fun cs b => hsel j oj cs b hoj) hQ hy h1
      have hfree' : ∀ k ok, ops[k]? = some ok → k ≠ i → (listed.setIfInBounds j true).getD k true = false →
          (∀ e ∈ ok.after, Region.binds md e = true → e.on ≠ i) → oi.apart ops ok = true := fun k ok hk hki hun hno => by
        refine hfree k ok hk hki ?_ hno
        by_cases hjk : j = k
        · subst hjk; exact hjun
        · rw [getD_set_ne true hjk] at hun; exact hun
      refine wpOp_mono (fun a' w' h3 => ?_) h2
      have hS' : S w' := h3.2.1.resolve_left hjl
      refine ⟨.inr hS', ih (listed.setIfInBounds j true) a' w' (hcl.list hj) hfree' (ready_mono hr (Ne.symm hji)) h3.1 hS' ?_⟩
      rw [Array.setIfInBounds_comm _ _ hji]
      exact h3.2.2

/-- Take number i first. -/
theorem anyN_takeL {opsL : List Oper} {i : Nat} {oi : Oper} {v : Value} {fuel : Nat} {listed : Array Bool} {a : Act} {w : World} (hi : opsL[i]? = some oi)
    (hs : Region.noSelect opsL.toArray = true) (hf : Region.free md opsL.toArray listed i = true) (hr : (Region.ready md opsL.toArray listed).contains i = true) (hwait : opsL.toArray.size ≤ last) (hcl : closedB md opsL.toArray listed = true)
    (hQ : ∀ c a w, Q (.panic c) (a.put oi.dst v) w → Q (.panic c) a w) (hy : YieldsIf P opsL.toArray S oi v a) (hS : S w)
    (h : anyT P md opsL.toArray Q S last fuel (listed.setIfInBounds i true) (a.put oi.dst v) w) : anyT P md opsL.toArray Q S last (fuel + 1) listed a w :=
  anyN_first (by simpa using hi) (Region.noSelect_spec hs) hQ hwait fuel listed a w (closedB_spec hcl) (Region.free_spec (by simpa using hi) hf) (by simpa using hr) hy hS h
end
end Go.Proofs.Ytibkmhacpodceaa
