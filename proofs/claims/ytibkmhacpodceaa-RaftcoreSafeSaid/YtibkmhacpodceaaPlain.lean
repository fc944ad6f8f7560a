/- The program's functions on plain data: raftlog, raftcore. No memory, no Go. -/
namespace Go.Proofs.Ytibkmhacpodceaa

structure Ent where
  index : Int
  term : Int
  kind : Int
  data : List Int
  deriving DecidableEq, Inhabited

structure Msg where
  kind : Int
  group : Int := 0
  from_ : Int := 0
  to_ : Int
  term : Int := 0
  index : Int := 0
  logTerm : Int := 0
  commit : Int := 0
  ok : Bool := false
  entries : List Ent := []
  members : List Int := []
  data : List Int := []
  deriving DecidableEq, Inhabited

structure LogM where
  sI : Int
  sT : Int
  sM : List Int
  ents : List Ent
  commit : Int
  deriving DecidableEq, Inhabited

structure RaftM where
  group : Int
  id : Int
  term : Int
  vote : Int
  log : LogM
  state : List Int
  role : Int
  leader : Int
  elapsed : Int
  votes : List Bool
  others : List (Int × Int)
  out : List Msg
  deriving DecidableEq, Inhabited

/-! raftlog -/

def okCount (n : Int) : Bool := decide (0 ≤ n ∧ n ≤ 9007199254740991)
def okNode (n : Int) : Bool := decide (1 ≤ n ∧ n ≤ 5)

/-- rising, in 1..5, behind 'last' -/
def risingB : Int → List Int → Bool
  | _, [] => true
  | last, n :: l => decide (last < n ∧ n ≤ 5) && risingB n l
def membersB (l : List Int) : Bool := decide (0 < l.length ∧ l.length ≤ 5) && risingB 0 l

def rightB (e : Ent) : Bool :=
  okCount e.index && okCount e.term && decide (e.term ≠ 0) &&
    if e.kind = 1 then decide (e.data.length = 0)
    else if e.kind = 2 then decide (e.data.length ≤ 12000)
    else if e.kind = 3 then decide (e.data.length ≤ 5) && membersB e.data
    else false

/-- do entries follow an index and a term? ('at' is the index that the first one must have) -/
def followB : Int → Int → List Ent → Bool
  | _, _, [] => true
  | at_, term, e :: l => rightB e && decide (e.index = at_) && decide (term ≤ e.term) && followB (at_ + 1) e.term l

def LogM.last (L : LogM) : Int × Int := match L.ents.getLast? with
  | none => (L.sI, L.sT)
  | some e => (e.index, e.term)

def LogM.entry (L : LogM) (i : Int) : Option Ent := if i ≤ L.sI ∨ (L.ents.length : Int) < i - L.sI then none else L.ents[(i - L.sI - 1).toNat]?

def LogM.termAt (L : LogM) (i : Int) : Option Int := if i = L.sI then some L.sT else (L.entry i).map (·.term)

def LogM.slice (L : LogM) (from_ most : Int) : List Ent :=
  if (L.entry from_).isNone ∨ most < 1 then [] else (L.ents.drop (from_ - L.sI - 1).toNat).take most.toNat

def LogM.add (L : LogM) (term kind : Int) (data : List Int) : Int × Int × LogM :=
  if followB (L.last.1 + 1) L.last.2 [⟨L.last.1 + 1, term, kind, data⟩] then (L.last.1 + 1, 0, { L with ents := L.ents ++ [⟨L.last.1 + 1, term, kind, data⟩] }) else (0, 1, L)

/-- the loop of Offer: the entries that are left, the log as it was -/
def LogM.lay (L : LogM) : List Ent → Option LogM
  | [] => some L
  | e :: es => match L.entry e.index with
    | some old => if old.term = e.term then L.lay es
      else if e.index ≤ L.commit then none
      else some { L with ents := L.ents.take (e.index - L.sI - 1).toNat ++ (e :: es) }
    | none => some { L with ents := L.ents.take (e.index - L.sI - 1).toNat ++ (e :: es) }

def LogM.offerAt (L : LogM) (index : Int) (es : List Ent) : Int × Bool × Int × LogM := match L.lay es with
  | some L' => (index + es.length, true, 0, L')
  | none => (0, false, 101, L)

def LogM.offer (L : LogM) (index term : Int) (es : List Ent) : Int × Bool × Int × LogM :=
  if okCount index && okCount term && followB (index + 1) term es then
    if index < L.sI then
      let es' := es.drop (min (L.sI - index) es.length).toNat
      match es' with
      | [] => L.offerAt L.sI es'
      | e :: _ => if e.term < L.sT then (0, false, 101, L) else L.offerAt L.sI es'
    else if L.termAt index = some term then L.offerAt index es
    else (max L.commit (min L.last.1 (index - 1)), false, 0, L)
  else (0, false, 1, L)

def LogM.settle (L : LogM) (i : Int) : LogM := if L.last.1 < i then L else { L with commit := max L.commit i }

def LogM.membersOf (sM : List Int) : List Ent → List Int
  | [] => sM
  | e :: es => LogM.membersOf (if e.kind = 3 then e.data else sM) es

def LogM.members (L : LogM) : List Int := LogM.membersOf L.sM L.ents

def LogM.changing (L : LogM) : Bool := L.ents.any fun e => decide (e.kind = 3 ∧ L.commit < e.index)

def LogM.cut (L : LogM) (i : Int) : Int × LogM :=
  if i < L.sI ∨ L.commit < i then (100, L)
  else (0, { L with sI := i, sT := (L.termAt i).getD 0, sM := LogM.membersOf L.sM (L.ents.take (i - L.sI).toNat), ents := L.ents.drop (i - L.sI).toNat })

def pointB (i t : Int) (m : List Int) : Bool := okCount i && okCount t && membersB m && ((decide (i = 0)) == (decide (t = 0)))

def LogM.reset (L : LogM) (i t : Int) (m : List Int) : Int × LogM :=
  if pointB i t m = false then (102, L)
  else if i ≤ L.commit then (100, L)
  else (0, { sI := i, sT := t, sM := m, ents := if L.termAt i = some t then L.ents.drop (i - L.sI).toNat else [], commit := i })

def LogM.newer (L : LogM) (i t : Int) : Bool := decide (L.last.2 < t) || (decide (t = L.last.2) && decide (L.last.1 ≤ i))

/-! raftcore -/

def RaftM.send (r : RaftM) (m : Msg) : RaftM := { r with out := r.out ++ [{ m with group := r.group, from_ := r.id, term := r.term }] }

def countP (is : Int → Bool) (l : List Int) : Nat := (l.filter is).length
def RaftM.majority (r : RaftM) (is : Int → Bool) : Bool := decide (r.log.members.length < 2 * countP is r.log.members)

def RaftM.follow (r : RaftM) (term : Int) : RaftM :=
  if r.term < term then { r with term := term, vote := 0, role := 1, leader := 0 } else { r with role := 1, leader := 0 }

def RaftM.next (r : RaftM) (p : Int) : Int := ((r.others[p.toNat]?).getD (0, 0)).1
def RaftM.match_ (r : RaftM) (p : Int) : Int := ((r.others[p.toNat]?).getD (0, 0)).2
def RaftM.voted (r : RaftM) (p : Int) : Bool := (r.votes[p.toNat]?).getD false

def RaftM.sendTo (r : RaftM) (p : Int) : RaftM :=
  if r.next p - 1 < r.log.sI then r.send { kind := 5, to_ := p, index := r.log.sI, logTerm := r.log.sT, members := r.log.sM, data := r.state }
  else r.send { kind := 3, to_ := p, index := r.next p - 1, logTerm := (r.log.termAt (r.next p - 1)).getD 0, commit := r.log.commit, entries := r.log.slice (r.next p - 1 + 1) 64 }

def RaftM.sendEach (r : RaftM) : List Int → RaftM
  | [] => r
  | p :: l => RaftM.sendEach (if p ≠ r.id then r.sendTo p else r) l

def RaftM.sendAll (r : RaftM) : RaftM := if r.role ≠ 3 then r else r.sendEach r.log.members

/-- the loop of commit: n down to above the commit; none: nothing is settled -/
def RaftM.settled (r : RaftM) : Nat → Int → Option Int
  | 0, _ => none
  | k + 1, n => if n ≤ r.log.commit then none
    else if (r.log.termAt n).getD 0 = r.term ∧ r.majority (fun p => decide (n ≤ r.match_ p)) = true then some n
    else r.settled k (n - 1)

def RaftM.mark (r : RaftM) : RaftM := { r with others := r.others.set r.id.toNat (r.next r.id, r.log.last.1) }

def RaftM.leave (r : RaftM) : RaftM := if r.log.changing = false ∧ r.id ∉ r.log.members then { r with role := 1, leader := 0 } else r

def RaftM.commitM (r : RaftM) : Bool × RaftM :=
  let r := r.mark
  match r.settled (r.log.last.1 - r.log.commit).toNat r.log.last.1 with
  | none => (false, r.leave)
  | some n => (true, { r with log := r.log.settle n }.leave)

def RaftM.lead (r : RaftM) : RaftM :=
  let r1 := { r with role := 3, leader := r.id, others := List.replicate 6 (r.log.last.1 + 1, 0), log := (r.log.add r.term 1 []).2.2 }
  r1.commitM.2.sendAll

def RaftM.elected (r : RaftM) : Bool × RaftM := if r.majority r.voted then (true, r.lead) else (false, r)

def RaftM.askEach (r : RaftM) (last term : Int) : List Int → RaftM
  | [] => r
  | p :: l => RaftM.askEach (if p ≠ r.id then r.send { kind := 1, to_ := p, index := last, logTerm := term } else r) last term l

def RaftM.stand (r : RaftM) : RaftM :=
  { r with term := r.term + 1, vote := r.id, role := 2, leader := 0, elapsed := 0, votes := (List.replicate 6 false).set r.id.toNat true }

def RaftM.want (r : RaftM) : RaftM :=
  if r.term = 9007199254740991 then r
  else if r.stand.elected.1 then r.stand.elected.2
  else r.stand.askEach r.log.last.1 r.log.last.2 r.log.members

def RaftM.take (r : RaftM) : List Msg × RaftM := (r.out, { r with out := [] })

def RaftM.tick (r : RaftM) (wait : Int) : RaftM :=
  if r.role = 3 then r.sendAll
  else if wait ≤ r.elapsed + 1 ∧ r.id ∈ r.log.members then { r with elapsed := r.elapsed + 1 }.want else { r with elapsed := r.elapsed + 1 }

def RaftM.addM (r : RaftM) (kind : Int) (data : List Int) : Int × Int × RaftM :=
  let (i, e, L) := r.log.add r.term kind data
  if e ≠ 0 then (0, e, { r with log := L }) else (i, 0, { r with log := L }.commitM.2.sendAll)

def RaftM.propose (r : RaftM) (data : List Int) : Int × Int × RaftM := if r.role ≠ 3 then (0, 110, r) else r.addM 2 data

def RaftM.hear (r : RaftM) (f : Int) : RaftM := { r with role := 1, leader := f, elapsed := 0 }

end Go.Proofs.Ytibkmhacpodceaa

/- The program's functions on plain data: the rest of raftcore. -/
namespace Go.Proofs.Ytibkmhacpodceaa

def diff5 (a b : List Int) : Nat := (([1, 2, 3, 4, 5] : List Int).filter fun p => decide (p ∈ a) != decide (p ∈ b)).length

def RaftM.change (r : RaftM) (l : List Int) : Int × Int × RaftM :=
  if r.role ≠ 3 then (0, 110, r)
  else if membersB l = false then (0, 1, r)
  else if r.log.changing = true ∨ (r.log.termAt r.log.commit).getD 0 ≠ r.term ∨ diff5 l r.log.members ≠ 1 then (0, 111, r)
  else r.addM 3 l

def RaftM.compact (r : RaftM) (i : Int) (data : List Int) : RaftM :=
  if (r.log.cut i).1 ≠ 0 then r else { r with log := (r.log.cut i).2, state := data }

def RaftM.fresh (id term vote : Int) (log : LogM) (state : List Int) : RaftM :=
  { group := 7, id := id, term := term, vote := vote, log := log, state := state, role := 1, leader := 0, elapsed := 0, votes := List.replicate 6 false, others := List.replicate 6 (0, 0), out := [] }

def RaftM.asked (r : RaftM) (m : Msg) : RaftM :=
  if (r.vote = 0 ∨ r.vote = m.from_) ∧ r.log.newer m.index m.logTerm = true then ({ r with vote := m.from_, elapsed := 0 } : RaftM).send { kind := 2, to_ := m.from_, ok := true }
  else r.send { kind := 2, to_ := m.from_ }

def RaftM.refuse (r : RaftM) (m : Msg) : RaftM :=
  if m.kind = 1 then r.send { kind := 2, to_ := m.from_ } else if m.kind = 3 ∨ m.kind = 5 then r.send { kind := 4, to_ := m.from_ } else r

/-- behind an offer -/
def RaftM.offered (r : RaftM) (m : Msg) (o : Int × Bool × Int × LogM) : RaftM :=
  if o.2.2.1 ≠ 0 then { r with log := o.2.2.2 }
  else ({ r with log := if o.2.1 = true then o.2.2.2.settle (min m.commit o.1) else o.2.2.2 } : RaftM).send { kind := 4, to_ := m.from_, ok := o.2.1, index := o.1 }

def RaftM.append (r : RaftM) (m : Msg) : RaftM := if r.role = 3 then r else (r.hear m.from_).offered m (r.log.offer m.index m.logTerm m.entries)

def RaftM.installed (r : RaftM) (m : Msg) (o : Int × LogM) : RaftM :=
  if o.1 ≠ 0 then r else ({ r with log := o.2, state := m.data } : RaftM).send { kind := 4, to_ := m.from_, ok := true, index := m.index }

def RaftM.install (r : RaftM) (m : Msg) : RaftM :=
  if r.role = 3 then r
  else if r.log.commit < m.index then (r.hear m.from_).installed m (r.log.reset m.index m.logTerm m.members)
  else (r.hear m.from_).send { kind := 4, to_ := m.from_, ok := true, index := r.log.commit }

def RaftM.setOther (r : RaftM) (p : Int) (next match_ : Int) : RaftM := { r with others := r.others.set p.toNat (next, match_) }

/-- behind a commit -/
def RaftM.onward (p last next : Int) (c : Bool × RaftM) : RaftM :=
  if c.1 = true then c.2.sendAll else if c.2.role = 3 ∧ next ≤ last then c.2.sendTo p else c.2

def RaftM.appended (r : RaftM) (m : Msg) : RaftM :=
  if r.role ≠ 3 then r
  else if m.ok = false then
    if m.index + 1 < r.next m.from_ then (r.setOther m.from_ (max m.index (r.match_ m.from_) + 1) (r.match_ m.from_)).sendTo m.from_ else r
  else if m.index ≤ r.log.last.1 then
    RaftM.onward m.from_ r.log.last.1 (max (r.match_ m.from_) m.index + 1) (r.setOther m.from_ (max (r.match_ m.from_) m.index + 1) (max (r.match_ m.from_) m.index)).commitM
  else r

def RaftM.stepped (r : RaftM) (m : Msg) : RaftM :=
  if m.term < r.term then r.refuse m
  else if m.kind = 1 then r.asked m
  else if m.kind = 2 then (if m.ok = true ∧ r.role = 2 then ({ r with votes := r.votes.set m.from_.toNat true } : RaftM).elected.2 else r)
  else if m.kind = 3 then r.append m
  else if m.kind = 5 then r.install m
  else if m.kind = 4 then r.appended m
  else r

def RaftM.stepM (r : RaftM) (m : Msg) : RaftM := RaftM.stepped (if r.term < m.term then r.follow m.term else r) m
end Go.Proofs.Ytibkmhacpodceaa

/- Plain law, lists: prefixes, members of a log, majorities. Nothing of memory. -/
namespace Go.Proofs.Ytibkmhacpodceaa

/-! Prefixes -/
section
variable {α : Type}
theorem pre_get {X Y : List α} (h : X <+: Y) {j : Nat} {x : α} (hx : X[j]? = some x) : Y[j]? = some x := by
  obtain ⟨Z, rfl⟩ := h
  obtain ⟨hj, _⟩ := List.getElem?_eq_some_iff.1 hx
  rw [List.getElem?_append_left hj]; exact hx
theorem pre_of_get {X Y : List α} (h : ∀ (j : Nat) (x : α), X[j]? = some x → Y[j]? = some x) : X <+: Y := by
  rw [List.prefix_iff_eq_take]
  apply List.ext_getElem?
  intro i
  rw [List.getElem?_take]
  by_cases hi : i < X.length
  · rw [if_pos hi]
    obtain ⟨x, hx⟩ : ∃ x, X[i]? = some x := ⟨_, List.getElem?_eq_getElem hi⟩
    rw [hx, h i x hx]
  · rw [if_neg hi]; exact List.getElem?_eq_none (by omega)
theorem pre_get_lt {X Y : List α} (h : X <+: Y) {j : Nat} {y : α} (hj : j < X.length) (hy : Y[j]? = some y) : X[j]? = some y := by
  obtain ⟨x, hx⟩ : ∃ x, X[j]? = some x := ⟨_, List.getElem?_eq_getElem hj⟩
  have := pre_get h hx
  rw [hy] at this
  rw [hx, Option.some.inj this]
theorem pre_take {X Y : List α} (h : X <+: Y) (n : Nat) : X.take n <+: Y := (List.take_prefix n X).trans h
theorem pre_take2 {X Y : List α} (h : X <+: Y) {n : Nat} (hn : X.length ≤ n) : X <+: Y.take n := List.prefix_take_iff.2 ⟨h, hn⟩
theorem take_take_pre (X : List α) {n m : Nat} (h : n ≤ m) : X.take n <+: X.take m := pre_take2 (List.take_prefix _ _) (by rw [List.length_take]; omega)
theorem take_of_pre {X Y : List α} (h : X <+: Y) {n : Nat} (hn : n ≤ X.length) : Y.take n = X.take n := by
  obtain ⟨Z, rfl⟩ := h
  exact List.take_append_of_le_length hn
theorem pre_len_eq {X Y : List α} (h : X <+: Y) (hl : Y.length ≤ X.length) : X = Y := by
  obtain ⟨Z, rfl⟩ := h
  have : Z = [] := List.eq_nil_of_length_eq_zero (by simp at hl; omega)
  simp [this]
theorem pre_cmp {X Y Z : List α} (h : X <+: Z) (k : Y <+: Z) : X <+: Y ∨ Y <+: X := List.prefix_or_prefix_of_prefix h k
theorem pre_le {X Y Z : List α} (h : X <+: Z) (k : Y <+: Z) (hl : X.length ≤ Y.length) : X <+: Y := List.prefix_of_prefix_length_le h k hl

/-- the longest common beginning's length -/
def lcp [DecidableEq α] : List α → List α → Nat
  | x :: X, y :: Y => if x = y then lcp X Y + 1 else 0
  | _, _ => 0
theorem lcp_take [DecidableEq α] : ∀ X Y : List α, X.take (lcp X Y) = Y.take (lcp X Y)
  | [], _ => by simp [lcp]
  | _ :: _, [] => by simp [lcp]
  | x :: X, y :: Y => by
    unfold lcp
    split
    · rename_i h; subst h; simp [lcp_take X Y]
    · rfl
theorem lcp_max [DecidableEq α] : ∀ {P X Y : List α}, P <+: X → P <+: Y → P.length ≤ lcp X Y
  | [], _, _, _, _ => Nat.zero_le _
  | p :: P, [], _, h, _ => by simp at h
  | p :: P, _ :: _, [], _, h => by simp at h
  | p :: P, x :: X, y :: Y, h, k => by
    rw [List.cons_prefix_cons] at h k
    obtain ⟨rfl, h⟩ := h
    obtain ⟨rfl, k⟩ := k
    unfold lcp
    rw [if_pos rfl]
    have := lcp_max h k
    simp only [List.length_cons]; omega
theorem lcp_comm [DecidableEq α] : ∀ X Y : List α, lcp X Y = lcp Y X
  | [], [] => rfl
  | [], _ :: _ => rfl
  | _ :: _, [] => rfl
  | x :: X, y :: Y => by
    unfold lcp
    by_cases h : x = y
    · subst h; simp [lcp_comm X Y]
    · rw [if_neg h, if_neg (Ne.symm h)]
theorem lcp_le [DecidableEq α] : ∀ X Y : List α, lcp X Y ≤ X.length ∧ lcp X Y ≤ Y.length
  | [], _ => by simp [lcp]
  | _ :: _, [] => by simp [lcp]
  | x :: X, y :: Y => by
    unfold lcp
    have := lcp_le X Y
    split <;> simp <;> omega
end

/-! Members of a log -/

def cfg (X : List Ent) : List Int := LogM.membersOf [1, 2, 3] X

theorem membersOf_append : ∀ (X Y : List Ent) (m : List Int), LogM.membersOf m (X ++ Y) = LogM.membersOf (LogM.membersOf m X) Y
  | [], _, _ => rfl
  | x :: X, Y, m => by
    show LogM.membersOf _ (X ++ Y) = _
    rw [membersOf_append X Y]
    rfl
theorem membersOf_none {X : List Ent} (h : ∀ x ∈ X, x.kind ≠ 3) (m : List Int) : LogM.membersOf m X = m := by
  induction X generalizing m with
  | nil => rfl
  | cons x X ih =>
    unfold LogM.membersOf
    rw [if_neg (h x (by simp))]
    exact ih (fun y hy => h y (by simp [hy])) m
theorem cfg_append (X Y : List Ent) : cfg (X ++ Y) = LogM.membersOf (cfg X) Y := membersOf_append X Y _
theorem cfg_split (X : List Ent) (n : Nat) : cfg X = LogM.membersOf (cfg (X.take n)) (X.drop n) := by
  conv => lhs; rw [← List.take_append_drop n X]
  exact cfg_append _ _
/-- no entry of members behind n -/
theorem cfg_none {X : List Ent} {n : Nat} (h : ∀ (j : Nat) (x : Ent), n ≤ j → X[j]? = some x → x.kind ≠ 3) : cfg X = cfg (X.take n) := by
  rw [cfg_split X n]
  refine membersOf_none (fun x hx => ?_) _
  obtain ⟨i, hi⟩ := List.getElem?_of_mem hx
  rw [List.getElem?_drop] at hi
  exact h _ _ (by omega) hi
/-- the last entry of members stands at j -/
theorem cfg_last {X : List Ent} {j : Nat} {x : Ent} (hx : X[j]? = some x) (hk : x.kind = 3) (h : ∀ (i : Nat) (y : Ent), j < i → X[i]? = some y → y.kind ≠ 3) : cfg X = x.data := by
  rw [cfg_none (n := j + 1) (fun i y hi => h i y (by omega))]
  rw [List.take_succ_eq_append_getElem (List.getElem?_eq_some_iff.1 hx).1, cfg_append]
  have : X[j]'(List.getElem?_eq_some_iff.1 hx).1 = x := (List.getElem?_eq_some_iff.1 hx).2
  rw [this]
  simp [LogM.membersOf, hk]
/-- none, or a last one -/
theorem cfg_cases (X : List Ent) (n : Nat) : (∀ (j : Nat) (x : Ent), n ≤ j → X[j]? = some x → x.kind ≠ 3) ∨
    ∃ j x, n ≤ j ∧ X[j]? = some x ∧ x.kind = 3 ∧ ∀ (i : Nat) (y : Ent), j < i → X[i]? = some y → y.kind ≠ 3 := by
  have key : ∀ (m : Nat), (∀ (j : Nat) (x : Ent), n ≤ j → X.length - m ≤ j → X[j]? = some x → x.kind ≠ 3) ∨
      ∃ j x, n ≤ j ∧ X[j]? = some x ∧ x.kind = 3 ∧ ∀ (i : Nat) (y : Ent), j < i → X[i]? = some y → y.kind ≠ 3 := by
    intro m
    induction m with
    | zero => exact .inl fun j x _ hj hx => by have := (List.getElem?_eq_some_iff.1 hx).1; omega
    | succ m ih =>
      rcases ih with h | h
      · by_cases hc : ∃ x, n ≤ X.length - (m + 1) ∧ X[X.length - (m + 1)]? = some x ∧ x.kind = 3
        · obtain ⟨x, h1, h2, h3⟩ := hc
          refine .inr ⟨_, x, h1, h2, h3, fun i y hi hy => h i y (by omega) (by omega) hy⟩
        · refine .inl fun j x hn hj hx hk => ?_
          by_cases he : j = X.length - (m + 1)
          · subst he; exact hc ⟨x, hn, hx, hk⟩
          · exact h j x hn (by omega) hx hk
      · exact .inr h
  rcases key X.length with h | h
  · exact .inl fun j x hn hx => h j x hn (by omega) hx
  · exact .inr h

/-! Members: risings lists; majorities meet -/

def nodes5 : List Int := [1, 2, 3, 4, 5]
def diff (a b : List Int) : Nat := (nodes5.filter fun p => decide (p ∈ a) != decide (p ∈ b)).length
theorem diff_comm (a b : List Int) : diff a b = diff b a := by
  unfold diff
  congr 2
  funext p
  exact bne_comm
theorem diff_self (a : List Int) : diff a a = 0 := by simp [diff]

theorem rising_sub : ∀ (l : List Int) (k : Nat), risingB k l = true → l.Sublist (nodes5.drop k)
  | [], _, _ => List.nil_sublist _
  | n :: l, k, h => by
    unfold risingB at h
    simp only [Bool.and_eq_true, decide_eq_true_eq] at h
    obtain ⟨⟨h1, h2⟩, h3⟩ := h
    obtain ⟨m, rfl⟩ : ∃ m : Nat, n = m := ⟨n.toNat, by omega⟩
    have ih := rising_sub l m h3
    have e : nodes5.drop (m - 1) = (m : Int) :: nodes5.drop m := by
      have hm : m = 1 ∨ m = 2 ∨ m = 3 ∨ m = 4 ∨ m = 5 := by omega
      rcases hm with rfl | rfl | rfl | rfl | rfl <;> rfl
    have h4 : ((m : Int) :: l).Sublist (nodes5.drop (m - 1)) := by rw [e]; exact ih.cons_cons _
    have h5 : (nodes5.drop (m - 1)).Sublist (nodes5.drop k) := by
      have : nodes5.drop (m - 1) = (nodes5.drop k).drop (m - 1 - k) := by rw [List.drop_drop]; congr 1; omega
      rw [this]; exact List.drop_sublist _ _
    exact h4.trans h5
theorem membersB_sub {l : List Int} (h : membersB l = true) : l.Sublist nodes5 := by
  unfold membersB at h
  simp only [Bool.and_eq_true, decide_eq_true_eq] at h
  exact rising_sub l 0 h.2

def bit (b : Bool) : Nat := if b then 1 else 0
def cnt (f : Int → Bool) : Nat := bit (f 1) + bit (f 2) + bit (f 3) + bit (f 4) + bit (f 5)
theorem filter5 (f : Int → Bool) : (nodes5.filter f).length = cnt f := by
  unfold nodes5 cnt bit
  simp only [List.filter_cons, List.filter_nil]
  cases f 1 <;> cases f 2 <;> cases f 3 <;> cases f 4 <;> cases f 5 <;> rfl
theorem sub_filter_gen {l L : List Int} (h : l.Sublist L) : L.Nodup → ∀ f : Int → Bool, (L.filter fun p => decide (p ∈ l) && f p).length = (l.filter f).length := by
  induction h with
  | slnil => intro _ f; rfl
  | @cons l L a h ih =>
    intro hn f
    rw [List.nodup_cons] at hn
    have : a ∉ l := fun ha => hn.1 (h.subset ha)
    simp only [List.filter_cons, this, decide_false, Bool.false_and]
    exact ih hn.2 f
  | @cons_cons l L a h ih =>
    intro hn f
    rw [List.nodup_cons] at hn
    have e : (L.filter fun p => decide (p ∈ a :: l) && f p) = L.filter fun p => decide (p ∈ l) && f p := by
      refine List.filter_congr fun p hp => ?_
      have : p ≠ a := fun h => hn.1 (h ▸ hp)
      simp [this]
    have ih := ih hn.2 f
    simp only [List.filter_cons, e]
    cases hf : f a <;> simp [ih]
theorem sub_filter {l : List Int} (h : l.Sublist nodes5) (f : Int → Bool) : countP f l = cnt fun p => decide (p ∈ l) && f p := by
  rw [← filter5]
  exact (sub_filter_gen h (by decide) f).symm

def maj (l : List Int) (Q : Int → Bool) : Prop := l.length < 2 * countP Q l

theorem maj_meet {l l' : List Int} (h : l.Sublist nodes5) (h' : l'.Sublist nodes5) (hd : diff l l' ≤ 1) {Q Q' : Int → Bool} (hq : maj l Q) (hq' : maj l' Q') :
    ∃ v, v ∈ l ∧ v ∈ l' ∧ Q v = true ∧ Q' v = true := by
  have key : ∀ p, (¬ ∃ v, v ∈ l ∧ v ∈ l' ∧ Q v = true ∧ Q' v = true) →
      2 * (bit (decide (p ∈ l) && Q p) + bit (decide (p ∈ l') && Q' p)) ≤ bit (decide (p ∈ l)) + bit (decide (p ∈ l')) + bit (decide (p ∈ l) != decide (p ∈ l')) := by
    intro p hn
    by_cases h1 : p ∈ l <;> by_cases h2 : p ∈ l' <;> cases h3 : Q p <;> cases h4 : Q' p <;> simp [bit, h1, h2]
    exact hn ⟨p, h1, h2, h3, h4⟩
  refine Classical.byContradiction fun hn => ?_
  have e1 := sub_filter h Q
  have e2 := sub_filter h' Q'
  have e3 : l.length = cnt fun p => decide (p ∈ l) && true := by rw [← sub_filter h]; unfold countP; rw [List.filter_eq_self.2 (by simp)]
  have e4 : l'.length = cnt fun p => decide (p ∈ l') && true := by rw [← sub_filter h']; unfold countP; rw [List.filter_eq_self.2 (by simp)]
  unfold diff at hd
  rw [filter5] at hd
  unfold maj at hq hq'
  rw [e1, e3] at hq
  rw [e2, e4] at hq'
  simp only [Bool.and_true] at hq hq'
  unfold cnt at *
  have k1 := key 1 hn
  have k2 := key 2 hn
  have k3 := key 3 hn
  have k4 := key 4 hn
  have k5 := key 5 hn
  clear e1 e2 e3 e4
  dsimp only at hd hq hq'
  omega

/-! The last term -/
def lastT (X : List Ent) : Int := match X.getLast? with
  | none => 0
  | some e => e.term
theorem lastT_nil : lastT [] = 0 := rfl
theorem lastT_get {X : List Ent} {x : Ent} (h : X[X.length - 1]? = some x) : lastT X = x.term := by
  unfold lastT
  rw [List.getLast?_eq_getElem?, h]
theorem lastT_take {X : List Ent} {j : Nat} {x : Ent} (h : X[j]? = some x) : lastT (X.take (j + 1)) = x.term := by
  have hj := (List.getElem?_eq_some_iff.1 h).1
  refine lastT_get ?_
  rw [List.length_take, Nat.min_eq_left (by omega), Nat.add_sub_cancel, List.getElem?_take, if_pos (by omega), h]
theorem lastT_append (X : List Ent) (x : Ent) : lastT (X ++ [x]) = x.term := by simp [lastT]
end Go.Proofs.Ytibkmhacpodceaa

/- Plain law, history: elections, commits, what they say of each other. Nothing of memory. -/
namespace Go.Proofs.Ytibkmhacpodceaa

/-- Who leads a term, with which log it began, which log it has laid since. -/
structure El where
  ldr : Int
  base : List Ent
  cur : List Ent

/-- What has ever been: elections, commits (term, what), acks (who, term, how much), candidates (who, term: its log), votes (who, term, for whom, its log). -/
structure Hist where
  el : Int → Option El
  com : Int → List Ent → Prop
  ack : Int → Int → Nat → Prop
  cand : Int → Int → Option (List Ent)
  vote : Int → Int → Int → List Ent → Prop

/-- each entry stands where the leader of its term has laid it -/
def Owned (H : Hist) (X : List Ent) : Prop :=
  ∀ (j : Nat) (x : Ent), X[j]? = some x → ∃ e, H.el x.term = some e ∧ e.base.length ≤ j ∧ X.take (j + 1) <+: e.cur

def Lack (H : Hist) (t T : Int) (P : List Ent) : Prop := ∃ T' e, t < T' ∧ T' ≤ T ∧ H.el T' = some e ∧ ¬ P <+: e.base

/-- as new as -/
def NewerL (B V : List Ent) : Prop := lastT V < lastT B ∨ (lastT V = lastT B ∧ V.length ≤ B.length)

/-- an entry of members at j was laid behind a commit of its term that has all entries of members ahead of it -/
def MemBehind (H : Hist) (t : Int) (X : List Ent) (j n : Nat) (d : List Int) : Prop :=
  ∃ P, H.com t P ∧ P.length ≤ j ∧ P.length < n ∧ P <+: X ∧ lastT P = t ∧ (∀ (i : Nat) (y : Ent), i < j → X[i]? = some y → y.kind = 3 → i < P.length) ∧ diff (cfg (X.take j)) d = 1

def EntOk (x : Ent) : Prop := 1 ≤ x.kind ∧ x.kind ≤ 3 ∧ x.data.length ≤ 100

structure Hist.Ok (H : Hist) : Prop where
  pre : ∀ T e, H.el T = some e → e.base <+: e.cur
  own : ∀ T e, H.el T = some e → Owned H e.base
  low : ∀ T e, H.el T = some e → ∀ x, x ∈ e.base → x.term < T
  own_ : ∀ T e, H.el T = some e → ∀ (j : Nat) (x : Ent), e.base.length ≤ j → e.cur[j]? = some x → x.term = T
  pos : ∀ T e, H.el T = some e → 0 < T
  dat : ∀ T e, H.el T = some e → ∀ (j : Nat) (x : Ent), e.cur[j]? = some x → x.index = j + 1 ∧ (x.kind = 3 → membersB x.data = true) ∧ EntOk x
  mem : ∀ T e, H.el T = some e → ∀ (j : Nat) (x : Ent), e.base.length ≤ j → e.cur[j]? = some x → x.kind = 3 → MemBehind H T e.cur j (j + 1) x.data
  com : ∀ t P, H.com t P → ∃ e F Q, H.el t = some e ∧ P <+: F ∧ F <+: e.cur ∧ e.base.length < P.length ∧ maj (cfg F) Q ∧
    (∀ v, Q v = true → v ∈ cfg F → ∃ i, P.length ≤ i ∧ H.ack v t i) ∧
    ∀ (j : Nat) (x : Ent), e.base.length ≤ j → F[j]? = some x → x.kind = 3 → MemBehind H t F j P.length x.data
  ack : ∀ v t i, H.ack v t i → ∃ e, H.el t = some e ∧ i ≤ e.cur.length
  vot : ∀ T e, H.el T = some e → ∃ Q, maj (cfg e.base) Q ∧ ∀ v, Q v = true → v ∈ cfg e.base → ∃ V, H.vote v T e.ldr V ∧ NewerL e.base V ∧
    ∀ t i n e', H.ack v t i → n ≤ i → t < T → H.el t = some e' → e'.cur.take n <+: V ∨ Lack H t (T - 1) (e'.cur.take n)
  one : ∀ v T c V c' V', H.vote v T c V → H.vote v T c' V' → c = c'
  vow : ∀ v T c V, H.vote v T c V → Owned H V
  vp : ∀ v T c V, H.vote v T c V → ∀ t i n e', H.ack v t i → n ≤ i → t < T → H.el t = some e' → e'.cur.take n <+: V ∨ Lack H t T (e'.cur.take n)
  full : ∀ t P, H.com t P → ∀ T e, t < T → H.el T = some e → P <+: e.base

section
variable {H : Hist}
theorem Hist.Ok.ownCur (h : H.Ok) {T : Int} {e : El} (he : H.el T = some e) : Owned H e.cur := by
  intro j x hx
  by_cases hj : j < e.base.length
  · have hb := pre_get_lt (h.pre T e he) hj hx
    obtain ⟨e', h1, h2, h3⟩ := h.own T e he j x hb
    refine ⟨e', h1, h2, ?_⟩
    rw [take_of_pre (h.pre T e he) (by omega)]
    exact h3
  · have ht := h.own_ T e he j x (by omega) hx
    rw [ht]
    exact ⟨e, he, by omega, List.take_prefix _ _⟩
theorem Owned.pre {X Y : List Ent} (h : Owned H Y) (hp : X <+: Y) : Owned H X := by
  intro j x hx
  obtain ⟨e, h1, h2, h3⟩ := h j x (pre_get hp hx)
  refine ⟨e, h1, h2, ?_⟩
  rw [take_of_pre hp (by have := (List.getElem?_eq_some_iff.1 hx).1; omega)] at h3
  exact h3
/-- terms do not fall -/
theorem Hist.Ok.curTerm (h : H.Ok) {T : Int} {e : El} (he : H.el T = some e) {j : Nat} {x : Ent} (hx : e.cur[j]? = some x) : x.term ≤ T ∧ (j < e.base.length → x.term < T) := by
  by_cases hj : j < e.base.length
  · have := h.low T e he x (List.mem_of_getElem? (pre_get_lt (h.pre T e he) hj hx))
    exact ⟨by omega, fun _ => this⟩
  · have := h.own_ T e he j x (by omega) hx
    exact ⟨by omega, fun h' => absurd h' hj⟩
theorem Hist.Ok.sorted (h : H.Ok) {X : List Ent} (hX : Owned H X) {i j : Nat} {x y : Ent} (hij : i ≤ j) (hx : X[i]? = some x) (hy : X[j]? = some y) : x.term ≤ y.term := by
  obtain ⟨e, h1, h2, h3⟩ := hX j y hy
  have : (X.take (j + 1))[i]? = some x := by rw [List.getElem?_take, if_pos (by omega)]; exact hx
  exact (h.curTerm h1 (pre_get h3 this)).1
/-- two entries of one term: one log's beginning is the other's -/
theorem Hist.Ok.match_ (_h : H.Ok) {X Y : List Ent} (hX : Owned H X) (hY : Owned H Y) {i j : Nat} {x y : Ent} (hx : X[i]? = some x) (hy : Y[j]? = some y) (ht : x.term = y.term) (hij : i ≤ j) :
    X.take (i + 1) <+: Y.take (j + 1) := by
  obtain ⟨e, h1, _, h3⟩ := hX i x hx
  obtain ⟨e', k1, _, k3⟩ := hY j y hy
  rw [ht, k1] at h1
  obtain rfl := Option.some.inj h1
  refine pre_le h3 k3 ?_
  have := (List.getElem?_eq_some_iff.1 hx).1
  have := (List.getElem?_eq_some_iff.1 hy).1
  rw [List.length_take, List.length_take]; omega
theorem Hist.Ok.matchAt (h : H.Ok) {X Y : List Ent} (hX : Owned H X) (hY : Owned H Y) {i : Nat} {x y : Ent} (hx : X[i]? = some x) (hy : Y[i]? = some y) (ht : x.term = y.term) : X.take (i + 1) = Y.take (i + 1) := by
  have h1 := h.match_ hX hY hx hy ht (Nat.le_refl _)
  have h2 := h.match_ hY hX hy hx ht.symm (Nat.le_refl _)
  exact pre_len_eq h1 h2.length_le

/-- Two logs, each with whose entries of members the other parts late: their members differ by one node at most. -/
def Side (H : Hist) (X Y : List Ent) : Prop :=
  ∀ (j : Nat) (x : Ent), X[j]? = some x → x.kind = 3 → X.take (j + 1) <+: Y ∨
    ∃ P, P <+: X ∧ P <+: Y ∧ P.length ≤ j ∧ lastT P = x.term ∧ 0 < P.length ∧ (∀ (i : Nat) (y : Ent), i < j → X[i]? = some y → y.kind = 3 → i < P.length) ∧ diff (cfg (X.take j)) x.data = 1

theorem side_one {X Y : List Ent} (h : Side H X Y) {n : Nat} (hn : n = lcp X Y) : cfg X = cfg (X.take n) ∨
    ∃ j x, n ≤ j ∧ X[j]? = some x ∧ x.kind = 3 ∧ diff (cfg (X.take n)) (cfg X) = 1 ∧ ∃ P, P <+: X ∧ P <+: Y ∧ P.length ≤ n ∧ lastT P = x.term ∧ 0 < P.length := by
  rcases cfg_cases X n with h0 | ⟨j, x, hj, hx, hk, hlast⟩
  · exact .inl (cfg_none h0)
  · refine .inr ⟨j, x, hj, hx, hk, ?_, ?_⟩
    all_goals
      have hjl := (List.getElem?_eq_some_iff.1 hx).1
      rcases h j x hx hk with hp | ⟨P, h1, h2, h3, h4, h5, h6, h7⟩
      · have := lcp_max (List.take_prefix (j + 1) X) hp
        rw [List.length_take] at this; omega
      have hPn : P.length ≤ n := hn ▸ lcp_max h1 h2
    · rw [cfg_last hx hk hlast]
      have : cfg (X.take j) = cfg (X.take n) := by
        rw [cfg_none (X := X.take j) (n := n) (fun i y hi hy hk' => by
          rw [List.getElem?_take] at hy
          split at hy
          · have := h6 i y (by assumption) hy hk'; omega
          · cases hy)]
        rw [List.take_take, Nat.min_eq_left hj]
      rw [← this]; exact h7
    · exact ⟨P, h1, h2, hPn, h4, h5⟩

theorem Hist.Ok.two (h : H.Ok) {X Y : List Ent} (hX : Owned H X) (hY : Owned H Y) (sx : Side H X Y) (sy : Side H Y X) : diff (cfg X) (cfg Y) ≤ 1 := by
  have hG : X.take (lcp X Y) = Y.take (lcp X Y) := lcp_take X Y
  obtain ⟨n, hn⟩ : ∃ n, n = lcp X Y := ⟨_, rfl⟩
  have hn' : n = lcp Y X := by rw [hn, lcp_comm]
  rw [← hn] at hG
  rcases side_one sx hn with hx | ⟨i, x, hi, hxi, hxk, hxd, P, p1, p2, p3, p4, p5⟩
  · rcases side_one sy hn' with hy | ⟨j, y, hj, hyj, hyk, hyd, _⟩
    · rw [hx, hy, hG, diff_self]; omega
    · rw [hx, hG, hyd]; omega
  · rcases side_one sy hn' with hy | ⟨j, y, hj, hyj, hyk, hyd, R, r1, r2, r3, r4, r5⟩
    · rw [hy, ← hG, diff_comm, hxd]; omega
    · exfalso
      obtain ⟨p, hp⟩ : ∃ p, P[P.length - 1]? = some p := ⟨_, List.getElem?_eq_getElem (by omega)⟩
      obtain ⟨r, hr⟩ : ∃ r, R[R.length - 1]? = some r := ⟨_, List.getElem?_eq_getElem (by omega)⟩
      have a1 := h.sorted hY (by omega) (pre_get p2 hp) hyj
      have a2 := h.sorted hX (by omega) (pre_get r2 hr) hxi
      rw [← lastT_get hp, p4] at a1
      rw [← lastT_get hr, r4] at a2
      have ht : x.term = y.term := by omega
      rcases Nat.le_total i j with hij | hij
      · have hm := (h.match_ hX hY hxi hyj ht hij).trans (List.take_prefix _ _)
        have := lcp_max (List.take_prefix (i + 1) X) hm
        have := (List.getElem?_eq_some_iff.1 hxi).1
        rw [List.length_take] at *; omega
      · have hm := (h.match_ hY hX hyj hxi ht.symm hij).trans (List.take_prefix _ _)
        have := lcp_max hm (List.take_prefix (j + 1) Y)
        have := (List.getElem?_eq_some_iff.1 hyj).1
        rw [List.length_take] at *; omega

theorem lastT_cur (h : H.Ok) {t : Int} {e : El} (he : H.el t = some e) {P : List Ent} (hp : P <+: e.cur) (hl : e.base.length < P.length) : lastT P = t := by
  obtain ⟨p, hp'⟩ : ∃ p, P[P.length - 1]? = some p := ⟨_, List.getElem?_eq_getElem (by omega)⟩
  rw [lastT_get hp']
  exact h.own_ t e he _ p (by omega) (pre_get hp hp')

theorem members_cfg (h : H.Ok) {X : List Ent} (hX : Owned H X) : (cfg X).Sublist nodes5 := by
  rcases cfg_cases X 0 with h0 | ⟨j, x, hj, hx, hk, hlast⟩
  · rw [cfg_none h0]
    exact membersB_sub (l := [1, 2, 3]) (by decide)
  · rw [cfg_last hx hk hlast]
    obtain ⟨e, h1, h2, h3⟩ := hX j x hx
    have : e.cur[j]? = some x := pre_get h3 (by rw [List.getElem?_take, if_pos (by omega)]; exact hx)
    exact membersB_sub ((h.dat _ e h1 j x this).2.1 hk)
theorem membersB_cfg (h : H.Ok) {X : List Ent} (hX : Owned H X) : membersB (cfg X) = true := by
  rcases cfg_cases X 0 with h0 | ⟨j, x, hj, hx, hk, hlast⟩
  · rw [cfg_none h0]; exact (by decide : membersB [1, 2, 3] = true)
  · rw [cfg_last hx hk hlast]
    obtain ⟨e, h1, h2, h3⟩ := hX j x hx
    have : e.cur[j]? = some x := pre_get h3 (by rw [List.getElem?_take, if_pos (by omega)]; exact hx)
    exact (h.dat _ e h1 j x this).2.1 hk

/-- What a log L, all of terms below T, and a commit (t, P) with the leader's log F need to be told apart: if P is not in L, then L's entries are of terms up to t, and their members differ by one at most. -/
theorem Hist.Ok.apart (h : H.Ok) {T t : Int} {L P F : List Ent} {e : El} (hL : Owned H L) (hLT : ∀ x, x ∈ L → x.term < T) (_htT : t < T) (he : H.el t = some e) (hPF : P <+: F) (hF : F <+: e.cur) (hb : e.base.length < P.length)
    (hmem : ∀ (j : Nat) (x : Ent), e.base.length ≤ j → F[j]? = some x → x.kind = 3 → MemBehind H t F j P.length x.data)
    (hmin : ∀ t2 P2, H.com t2 P2 → (t2 < t ∨ t2 = t ∧ P2.length < P.length) → P2 <+: L)
    (hmid : ∀ T' e', H.el T' = some e' → t < T' → T' < T → P <+: e'.base) (hno : ¬ P <+: L) :
    (∀ x, x ∈ L → x.term ≤ t) ∧ diff (cfg L) (cfg F) ≤ 1 := by
  have hlow : ∀ (j : Nat) (x : Ent), L[j]? = some x → x.term ≤ t := by
    intro j x hx
    refine Int.not_lt.1 fun hlt => hno ?_
    obtain ⟨e1, k1, k2, k3⟩ := hL j x hx
    have hm := hmid _ e1 k1 hlt (hLT x (List.mem_of_getElem? hx))
    have hl := (List.getElem?_eq_some_iff.1 hx).1
    have : e1.base <+: L.take (j + 1) := pre_le (h.pre _ _ k1) k3 (by rw [List.length_take]; omega)
    exact (hm.trans this).trans (List.take_prefix _ _)
  have hFo : Owned H F := (h.ownCur he).pre hF
  have hbF : e.base <+: F := pre_le (h.pre _ _ he) hF (by have := hPF.length_le; omega)
  refine ⟨fun x hx => ?_, h.two hL hFo ?_ ?_⟩
  · obtain ⟨j, hj⟩ := List.getElem?_of_mem hx
    exact hlow j x hj
  · intro j x hx hk
    obtain ⟨e1, k1, k2, k3⟩ := hL j x hx
    have hxl := hlow j x hx
    have hl := (List.getElem?_eq_some_iff.1 hx).1
    have hxc : e1.cur[j]? = some x := pre_get k3 (by rw [List.getElem?_take, if_pos (by omega)]; exact hx)
    rcases Int.lt_or_eq_of_le hxl with hlt | heq
    · right
      obtain ⟨P2, m1, m2, m3, m4, m5, m6, m7⟩ := h.mem _ e1 k1 j x k2 hxc hk
      have htk : e1.cur.take (j + 1) = L.take (j + 1) := (List.prefix_iff_eq_take.1 k3 ▸ by rw [List.length_take, Nat.min_eq_left (by omega)])
      have hPL : P2 <+: L := (pre_take2 m4 (n := j + 1) (by omega)).trans (htk ▸ List.take_prefix _ _)
      have hP2 : P2 <+: F := ((h.full _ _ m1 t e hlt he)).trans hbF
      have hpos : 0 < P2.length := by
        obtain ⟨e2, _, _, q1, _, _, q2, _⟩ := h.com _ _ m1
        omega
      refine ⟨P2, hPL, hP2, m2, m5, hpos, fun i y hi hy hky => ?_, ?_⟩
      · refine m6 i y hi (pre_get k3 ?_) hky
        rw [List.getElem?_take, if_pos (by omega)]; exact hy
      · have : e1.cur.take j = L.take j := by
          have := congrArg (List.take j) htk
          simpa [List.take_take] using this
        rw [← this]; exact m7
    · left
      rw [heq, he] at k1
      obtain rfl := Option.some.inj k1
      rcases pre_cmp k3 hF with hc | hc
      · exact hc
      · exact absurd ((hPF.trans hc).trans (List.take_prefix _ _)) hno
  · intro j x hx hk
    right
    obtain ⟨e1, k1, k2, k3⟩ := hFo j x hx
    have hl := (List.getElem?_eq_some_iff.1 hx).1
    have hxt := (h.curTerm he (pre_get hF hx)).1
    rcases Int.lt_or_eq_of_le hxt with hlt | heq
    · have hxc : e1.cur[j]? = some x := pre_get k3 (by rw [List.getElem?_take, if_pos (by omega)]; exact hx)
      obtain ⟨P2, m1, m2, m3, m4, m5, m6, m7⟩ := h.mem _ e1 k1 j x k2 hxc hk
      have htk : e1.cur.take (j + 1) = F.take (j + 1) := (List.prefix_iff_eq_take.1 k3 ▸ by rw [List.length_take, Nat.min_eq_left (by omega)])
      have hPL : P2 <+: F := (pre_take2 m4 (n := j + 1) (by omega)).trans (htk ▸ List.take_prefix _ _)
      have hpos : 0 < P2.length := by
        obtain ⟨e2, _, _, q1, _, _, q2, _⟩ := h.com _ _ m1
        omega
      refine ⟨P2, hPL, hmin _ _ m1 (.inl hlt), m2, m5, hpos, fun i y hi hy hky => ?_, ?_⟩
      · refine m6 i y hi (pre_get k3 ?_) hky
        rw [List.getElem?_take, if_pos (by omega)]; exact hy
      · have : e1.cur.take j = F.take j := by
          have := congrArg (List.take j) htk
          simpa [List.take_take] using this
        rw [← this]; exact m7
    · have hbj : e.base.length ≤ j := by
        rw [heq, he] at k1
        obtain rfl := Option.some.inj k1
        exact k2
      obtain ⟨P2, m1, m2, m3, m4, m5, m6, m7⟩ := hmem j x hbj hx hk
      have hpos : 0 < P2.length := by
        obtain ⟨e2, _, _, q1, _, _, q2, _⟩ := h.com _ _ m1
        omega
      exact ⟨P2, m4, hmin _ _ m1 (.inr ⟨rfl, m3⟩), m2, by rw [m5, heq], hpos, m6, m7⟩

/-- A voter that has P, and L as new as its log: L has P. -/
theorem Hist.Ok.meets (h : H.Ok) {t : Int} {L P V : List Ent} {e : El} (hL : Owned H L) (hV : Owned H V) (he : H.el t = some e) (hP : P <+: e.cur) (hb : e.base.length < P.length)
    (hlow : ∀ x, x ∈ L → x.term ≤ t) (hPV : P <+: V) (hn : NewerL L V) : P <+: L := by
  have hpos : 0 < P.length := by omega
  have hPl := lastT_cur h he hP hb
  obtain ⟨p, hp⟩ : ∃ p, P[P.length - 1]? = some p := ⟨_, List.getElem?_eq_getElem (by omega)⟩
  have hVl : 0 < V.length := by have := hPV.length_le; omega
  obtain ⟨v, hv⟩ : ∃ v, V[V.length - 1]? = some v := ⟨_, List.getElem?_eq_getElem (by omega)⟩
  have h1 : t ≤ lastT V := by
    rw [lastT_get hv, ← hPl, lastT_get hp]
    exact h.sorted hV (by have := hPV.length_le; omega) (pre_get hPV hp) hv
  have htp := h.pos t e he
  have hL0 : 0 < L.length := by
    rcases Nat.eq_zero_or_pos L.length with h0 | h0
    · have : L = [] := List.eq_nil_of_length_eq_zero h0
      subst this
      rcases hn with hn | ⟨hn, _⟩
      · rw [lastT_nil] at hn; omega
      · rw [lastT_nil] at hn; omega
    · exact h0
  obtain ⟨l, hl⟩ : ∃ l, L[L.length - 1]? = some l := ⟨_, List.getElem?_eq_getElem (by omega)⟩
  have h2 : lastT L ≤ t := by rw [lastT_get hl]; exact hlow l (List.mem_of_getElem? hl)
  rcases hn with hn | ⟨hn, hlen⟩
  · omega
  · have := h.match_ hV hL hv hl (by rw [← lastT_get hv, ← lastT_get hl]; exact hn) (by omega)
    rw [List.take_of_length_le (by omega), List.take_of_length_le (by omega)] at this
    exact hPV.trans this
end

/-- A new election: the log has all commits of the terms below. -/
theorem Hist.Ok.newBase {H : Hist} (h : H.Ok) {T c : Int} {L : List Ent} (hL : Owned H L) (hLT : ∀ x, x ∈ L → x.term < T) {Q : Int → Bool} (hQ : maj (cfg L) Q)
    (hv : ∀ v, Q v = true → v ∈ cfg L → ∃ V, H.vote v T c V ∧ NewerL L V ∧ ∀ t i n e', H.ack v t i → n ≤ i → t < T → H.el t = some e' → e'.cur.take n <+: V ∨ Lack H t T (e'.cur.take n)) :
    ∀ t P, H.com t P → t < T → P <+: L := by
  have key : ∀ (m n : Nat) t P, H.com t P → t < T → t.toNat < m → P.length < n → P <+: L := by
    intro m
    induction m with
    | zero => intro n t P _ _ hm; omega
    | succ m ihm =>
      intro n
      induction n with
      | zero => intro t P _ _ _ hn; omega
      | succ n ihn =>
        intro t P hc htT hm hn
        refine Classical.byContradiction fun hno => ?_
        obtain ⟨e, F, Qc, he, hPF, hF, hb, hQc, hacks, hmem⟩ := h.com t P hc
        have htp := h.pos t e he
        have hmin : ∀ t2 P2, H.com t2 P2 → (t2 < t ∨ t2 = t ∧ P2.length < P.length) → P2 <+: L := by
          intro t2 P2 hc2 h2
          rcases h2 with h2 | ⟨rfl, h2⟩
          · exact ihm (P2.length + 1) t2 P2 hc2 (by omega) (by
              obtain ⟨e2, _, _, he2, _⟩ := h.com t2 P2 hc2
              have := h.pos t2 e2 he2
              omega) (by omega)
          · exact ihn t2 P2 hc2 htT hm (by omega)
        have hmid : ∀ T' e', H.el T' = some e' → t < T' → T' < T → P <+: e'.base := fun T' e' he' h1 _ => h.full t P hc T' e' h1 he'
        obtain ⟨hlow, hd⟩ := h.apart hL hLT htT he hPF hF hb hmem hmin hmid hno
        obtain ⟨v, v1, v2, v3, v4⟩ := maj_meet (members_cfg h hL) (members_cfg h ((h.ownCur he).pre hF)) hd hQ hQc
        obtain ⟨i, hi, hack⟩ := hacks v v4 v2
        obtain ⟨V, w1, w2, w3⟩ := hv v v3 v1
        have hPt : e.cur.take P.length = P := (List.prefix_iff_eq_take.1 (hPF.trans hF)).symm
        have w3 := w3 t i P.length e hack hi htT he
        rw [hPt] at w3
        rcases w3 with h1 | ⟨T', e', a1, a2, a3, a4⟩
        · exact hno (h.meets hL (h.vow v T c V w1) he (hPF.trans hF) hb hlow h1 w2)
        · exact a4 (h.full t P hc T' e' a1 a3)
  intro t P hc htT
  exact key (t.toNat + 1) (P.length + 1) t P hc htT (by omega) (by omega)

/-- Two candidates of one term with a majority each: one voter for both. -/
theorem Hist.Ok.oneBase {H : Hist} (h : H.Ok) {T c : Int} {L : List Ent} (hL : Owned H L) (hLT : ∀ x, x ∈ L → x.term < T) {Q : Int → Bool} (hQ : maj (cfg L) Q)
    (hv : ∀ v, Q v = true → v ∈ cfg L → ∃ V, H.vote v T c V) (hfull : ∀ t P, H.com t P → t < T → P <+: L) {e : El} (he : H.el T = some e) : e.ldr = c := by
  have hB := h.own T e he
  have side : ∀ X Y : List Ent, Owned H X → (∀ x, x ∈ X → x.term < T) → (∀ t P, H.com t P → t < T → P <+: Y) → Side H X Y := by
    intro X Y hX hXT hY j x hx hk
    right
    obtain ⟨e1, k1, k2, k3⟩ := hX j x hx
    have hl := (List.getElem?_eq_some_iff.1 hx).1
    have hxc : e1.cur[j]? = some x := pre_get k3 (by rw [List.getElem?_take, if_pos (by omega)]; exact hx)
    obtain ⟨P2, m1, m2, m3, m4, m5, m6, m7⟩ := h.mem _ e1 k1 j x k2 hxc hk
    have htk : e1.cur.take (j + 1) = X.take (j + 1) := (List.prefix_iff_eq_take.1 k3 ▸ by rw [List.length_take, Nat.min_eq_left (by omega)])
    have hPL : P2 <+: X := (pre_take2 m4 (n := j + 1) (by omega)).trans (htk ▸ List.take_prefix _ _)
    have hpos : 0 < P2.length := by
      obtain ⟨e2, _, _, q1, _, _, q2, _⟩ := h.com _ _ m1
      omega
    refine ⟨P2, hPL, hY _ _ m1 (hXT x (List.mem_of_getElem? hx)), m2, m5, hpos, fun i y hi hy hky => ?_, ?_⟩
    · refine m6 i y hi (pre_get k3 ?_) hky
      rw [List.getElem?_take, if_pos (by omega)]; exact hy
    · have : e1.cur.take j = X.take j := by
        have := congrArg (List.take j) htk
        simpa [List.take_take] using this
      rw [← this]; exact m7
  have hd := h.two hL hB (side _ _ hL hLT fun t P hc ht => h.full t P hc T e ht he) (side _ _ hB (h.low T e he) hfull)
  obtain ⟨Q2, hQ2, hv2⟩ := h.vot T e he
  obtain ⟨v, v1, v2, v3, v4⟩ := maj_meet (members_cfg h hL) (members_cfg h hB) hd hQ hQ2
  obtain ⟨V, hV⟩ := hv v v3 v1
  obtain ⟨V2, hV2, _⟩ := hv2 v v4 v2
  exact h.one v T _ _ _ _ hV2 hV

/-- A new commit: every later leader has it. -/
theorem Hist.Ok.newCom {H : Hist} (h : H.Ok) {t : Int} {e : El} {F P : List Ent} {Q : Int → Bool} (he : H.el t = some e) (hPF : P <+: F) (hF : F <+: e.cur) (hb : e.base.length < P.length)
    (hQ : maj (cfg F) Q) (hacks : ∀ v, Q v = true → v ∈ cfg F → ∃ i, P.length ≤ i ∧ H.ack v t i)
    (hmem : ∀ (j : Nat) (x : Ent), e.base.length ≤ j → F[j]? = some x → x.kind = 3 → MemBehind H t F j P.length x.data) :
    ∀ T e', t < T → H.el T = some e' → P <+: e'.base := by
  have key : ∀ (m : Nat) T e', t < T → H.el T = some e' → (T - t).toNat < m → P <+: e'.base := by
    intro m
    induction m with
    | zero => intro T e' _ _ hm; omega
    | succ m ih =>
      intro T e' htT heT hm
      refine Classical.byContradiction fun hno => ?_
      have hL := h.own T e' heT
      have hmin : ∀ t2 P2, H.com t2 P2 → (t2 < t ∨ t2 = t ∧ P2.length < P.length) → P2 <+: e'.base := fun t2 P2 hc2 h2 => h.full t2 P2 hc2 T e' (by omega) heT
      have hmid : ∀ T' e'', H.el T' = some e'' → t < T' → T' < T → P <+: e''.base := fun T' e'' he' h1 h2 => ih T' e'' h1 he' (by omega)
      obtain ⟨hlow, hd⟩ := h.apart hL (h.low T e' heT) htT he hPF hF hb hmem hmin hmid hno
      obtain ⟨Q2, hQ2, hv2⟩ := h.vot T e' heT
      obtain ⟨v, v1, v2, v3, v4⟩ := maj_meet (members_cfg h hL) (members_cfg h ((h.ownCur he).pre hF)) hd hQ2 hQ
      obtain ⟨i, hi, hack⟩ := hacks v v4 v2
      obtain ⟨V, w1, w2, w3⟩ := hv2 v v3 v1
      have hPt : e.cur.take P.length = P := (List.prefix_iff_eq_take.1 (hPF.trans hF)).symm
      have w3 := w3 t i P.length e hack hi htT he
      rw [hPt] at w3
      rcases w3 with h1 | ⟨T', e'', a1, a2, a3, a4⟩
      · exact hno (h.meets hL (h.vow v T _ V w1) he (hPF.trans hF) hb hlow h1 w2)
      · exact a4 (hmid T' e'' a3 a1 (by omega))
  intro T e' htT heT
  exact key ((T - t).toNat + 1) T e' htT heT (by omega)

/-- What is committed is one log's beginning. -/
theorem Hist.Ok.coms {H : Hist} (h : H.Ok) {t t' : Int} {P P' : List Ent} (hc : H.com t P) (hc' : H.com t' P') : P <+: P' ∨ P' <+: P := by
  have le : ∀ t t' P P', H.com t P → H.com t' P' → t ≤ t' → P <+: P' ∨ P' <+: P := by
    intro t t' P P' hc hc' hl
    obtain ⟨e', F', _, he', hPF', hF', _⟩ := h.com t' P' hc'
    have h1 : P' <+: e'.cur := hPF'.trans hF'
    rcases Int.lt_or_eq_of_le hl with hlt | rfl
    · exact pre_cmp ((h.full t P hc t' e' hlt he').trans (h.pre _ _ he')) h1
    · obtain ⟨e, F, _, he, hPF, hF, _⟩ := h.com t P hc
      rw [he] at he'
      obtain rfl := Option.some.inj he'
      exact pre_cmp (hPF.trans hF) h1
  rcases Int.le_total t t' with hl | hl
  · exact le t t' P P' hc hc' hl
  · exact (le t' t P' P hc' hc hl).symm
end Go.Proofs.Ytibkmhacpodceaa

/- Plain law: how the history grows, and stays in order. Nothing of memory. -/
namespace Go.Proofs.Ytibkmhacpodceaa

/-- the history grows -/
structure Le (H H' : Hist) : Prop where
  el : ∀ T e, H.el T = some e → ∃ e', H'.el T = some e' ∧ e'.ldr = e.ldr ∧ e'.base = e.base ∧ e.cur <+: e'.cur
  com : ∀ t P, H.com t P → H'.com t P
  ack : ∀ v t i, H.ack v t i → H'.ack v t i
  cand : ∀ c T B, H.cand c T = some B → H'.cand c T = some B
  vote : ∀ v T c V, H.vote v T c V → H'.vote v T c V

def Committed (H : Hist) (T : Int) (P : List Ent) : Prop := P = [] ∨ ∃ t P', H.com t P' ∧ t ≤ T ∧ P <+: P'

section
variable {H H' : Hist}
theorem Le.refl (H : Hist) : Le H H := ⟨fun _ e h => ⟨e, h, rfl, rfl, List.prefix_refl _⟩, fun _ _ h => h, fun _ _ _ h => h, fun _ _ _ h => h, fun _ _ _ _ h => h⟩
theorem Le.trans {H'' : Hist} (a : Le H H') (b : Le H' H'') : Le H H'' :=
  ⟨fun T e h => by
    obtain ⟨e1, h1, h2, h3, h4⟩ := a.el T e h
    obtain ⟨e2, k1, k2, k3, k4⟩ := b.el T e1 h1
    exact ⟨e2, k1, k2.trans h2, k3.trans h3, h4.trans k4⟩,
   fun t P h => b.com _ _ (a.com _ _ h), fun v t i h => b.ack _ _ _ (a.ack _ _ _ h), fun c T B h => b.cand _ _ _ (a.cand _ _ _ h), fun v T c V h => b.vote _ _ _ _ (a.vote _ _ _ _ h)⟩
theorem Owned.mono (hl : Le H H') {X : List Ent} (h : Owned H X) : Owned H' X := by
  intro j x hx
  obtain ⟨e, h1, h2, h3⟩ := h j x hx
  obtain ⟨e', k1, _, k3, k4⟩ := hl.el _ _ h1
  exact ⟨e', k1, by rw [k3]; exact h2, h3.trans k4⟩
theorem Lack.mono (hl : Le H H') {t T T' : Int} {P : List Ent} (h : Lack H t T P) (hT : T ≤ T') : Lack H' t T' P := by
  obtain ⟨T1, e, h1, h2, h3, h4⟩ := h
  obtain ⟨e', k1, _, k3, _⟩ := hl.el _ _ h3
  exact ⟨T1, e', h1, by omega, k1, by rw [k3]; exact h4⟩
theorem MemBehind.mono (hl : Le H H') {t : Int} {X X' : List Ent} {j n n' : Nat} {d : List Int} (h : MemBehind H t X j n d) (hX : X <+: X') (hj : j ≤ X.length) (hn : n ≤ n') : MemBehind H' t X' j n' d := by
  obtain ⟨P, h1, h2, h3, h4, h5, h6, h7⟩ := h
  refine ⟨P, hl.com _ _ h1, h2, by omega, h4.trans hX, h5, fun i y hi hy hk => h6 i y hi (pre_get_lt hX (by omega) hy) hk, ?_⟩
  rw [take_of_pre hX hj]; exact h7
theorem Committed.mono (hl : Le H H') {T T' : Int} {P : List Ent} (h : Committed H T P) (hT : T ≤ T') : Committed H' T' P := by
  rcases h with h | ⟨t, P', h1, h2, h3⟩
  · exact .inl h
  · exact .inr ⟨t, P', hl.com _ _ h1, by omega, h3⟩
theorem Committed.pre {T : Int} {P P' : List Ent} (h : Committed H T P) (hp : P' <+: P) : Committed H T P' := by
  rcases h with rfl | ⟨t, P1, h1, h2, h3⟩
  · exact .inl (by simpa using hp)
  · exact .inr ⟨t, P1, h1, h2, hp.trans h3⟩
/-- what is committed by a term lies in that term's leader's log -/
theorem Committed.inCur (h : H.Ok) {T : Int} {e : El} (he : H.el T = some e) {P : List Ent} (hc : Committed H T P) : P <+: e.cur := by
  rcases hc with rfl | ⟨t, P', h1, h2, h3⟩
  · exact List.nil_prefix
  · refine h3.trans ?_
    rcases Int.lt_or_eq_of_le h2 with hlt | rfl
    · exact (h.full t P' h1 T e hlt he).trans (h.pre _ _ he)
    · obtain ⟨e', F, _, he', hPF, hF, _⟩ := h.com t P' h1
      rw [he] at he'
      obtain rfl := Option.some.inj he'
      exact hPF.trans hF
theorem Committed.cmp (h : H.Ok) {T T' : Int} {P P' : List Ent} (hc : Committed H T P) (hc' : Committed H T' P') : P <+: P' ∨ P' <+: P := by
  rcases hc with rfl | ⟨t, P1, h1, _, h3⟩
  · exact .inl List.nil_prefix
  · rcases hc' with rfl | ⟨t', P1', k1, _, k3⟩
    · exact .inr List.nil_prefix
    · rcases h.coms h1 k1 with h0 | h0
      · exact pre_cmp (h3.trans h0) k3
      · exact pre_cmp h3 (k3.trans h0)

/-! A vote -/
def Hist.addVote (H : Hist) (v0 T0 c0 : Int) (V0 : List Ent) : Hist := { H with vote := fun v T c V => H.vote v T c V ∨ (v = v0 ∧ T = T0 ∧ c = c0 ∧ V = V0) }
theorem Le.addVote (H : Hist) (v0 T0 c0 : Int) (V0 : List Ent) : Le H (H.addVote v0 T0 c0 V0) :=
  ⟨fun _ e h => ⟨e, h, rfl, rfl, List.prefix_refl _⟩, fun _ _ h => h, fun _ _ _ h => h, fun _ _ _ h => h, fun _ _ _ _ h => .inl h⟩
theorem Hist.Ok.addVote (h : H.Ok) {v0 T0 c0 : Int} {V0 : List Ent} (hV : Owned H V0) (h1 : ∀ c V, H.vote v0 T0 c V → c = c0)
    (hp : ∀ t i n e', H.ack v0 t i → n ≤ i → t < T0 → H.el t = some e' → e'.cur.take n <+: V0 ∨ Lack H t T0 (e'.cur.take n)) : (H.addVote v0 T0 c0 V0).Ok where
  pre := h.pre
  own := h.own
  low := h.low
  own_ := h.own_
  pos := h.pos
  dat := h.dat
  mem := h.mem
  com := h.com
  ack := h.ack
  vot := fun T e he => by
    obtain ⟨Q, hQ, hv⟩ := h.vot T e he
    refine ⟨Q, hQ, fun v hq hm => ?_⟩
    obtain ⟨V, k1, k2, k3⟩ := hv v hq hm
    exact ⟨V, .inl k1, k2, k3⟩
  one := by
    intro v T c V c' V' a b
    rcases a with a | ⟨a1, a2, a3, a4⟩ <;> rcases b with b | ⟨b1, b2, b3, b4⟩
    · exact h.one _ _ _ _ _ _ a b
    · subst b1; subst b2; rw [b3]; exact h1 _ _ a
    · subst a1; subst a2; rw [a3]; exact (h1 _ _ b).symm
    · rw [a3, b3]
  vow := by
    rintro v T c V (a | ⟨rfl, rfl, rfl, rfl⟩)
    · exact h.vow _ _ _ _ a
    · exact hV
  vp := by
    rintro v T c V (a | ⟨rfl, rfl, rfl, rfl⟩)
    · exact h.vp _ _ _ _ a
    · exact hp
  full := h.full

/-! A candidate -/
def Hist.addCand (H : Hist) (c0 T0 : Int) (B0 : List Ent) : Hist := { H with cand := fun c T => if c = c0 ∧ T = T0 then some B0 else H.cand c T }
theorem Le.addCand (H : Hist) (c0 T0 : Int) (B0 : List Ent) (hn : H.cand c0 T0 = none) : Le H (H.addCand c0 T0 B0) :=
  ⟨fun _ e h => ⟨e, h, rfl, rfl, List.prefix_refl _⟩, fun _ _ h => h, fun _ _ _ h => h, fun c T B h => (by
    show (if c = c0 ∧ T = T0 then some B0 else H.cand c T) = some B
    rw [if_neg (by rintro ⟨rfl, rfl⟩; rw [hn] at h; cases h)]
    exact h), fun _ _ _ _ h => h⟩
theorem Hist.Ok.addCand (h : H.Ok) (c0 T0 : Int) (B0 : List Ent) : (H.addCand c0 T0 B0).Ok :=
  ⟨h.pre, h.own, h.low, h.own_, h.pos, h.dat, h.mem, h.com, h.ack, h.vot, h.one, h.vow, h.vp, h.full⟩

/-! An ack -/
def Hist.addAck (H : Hist) (v0 t0 : Int) (i0 : Nat) : Hist := { H with ack := fun v t i => H.ack v t i ∨ (v = v0 ∧ t = t0 ∧ i = i0) }
theorem Le.addAck (H : Hist) (v0 t0 : Int) (i0 : Nat) : Le H (H.addAck v0 t0 i0) :=
  ⟨fun _ e h => ⟨e, h, rfl, rfl, List.prefix_refl _⟩, fun _ _ h => h, fun _ _ _ h => .inl h, fun _ _ _ h => h, fun _ _ _ _ h => h⟩
theorem Hist.Ok.addAck (h : H.Ok) {v0 t0 : Int} {i0 : Nat} {e0 : El} (he : H.el t0 = some e0) (hi : i0 ≤ e0.cur.length) (hv : ∀ T c V, H.vote v0 T c V → T ≤ t0) : (H.addAck v0 t0 i0).Ok where
  pre := h.pre
  own := h.own
  low := h.low
  own_ := h.own_
  pos := h.pos
  dat := h.dat
  mem := h.mem
  com := fun t P hc => by
    obtain ⟨e, F, Q, h1, h2, h3, h4, h5, h6, h7⟩ := h.com t P hc
    refine ⟨e, F, Q, h1, h2, h3, h4, h5, fun v hq hm => ?_, h7⟩
    obtain ⟨i, hi, ha⟩ := h6 v hq hm
    exact ⟨i, hi, .inl ha⟩
  ack := by
    rintro v t i (a | ⟨rfl, rfl, rfl⟩)
    · exact h.ack _ _ _ a
    · exact ⟨e0, he, hi⟩
  vot := fun T e he' => by
    obtain ⟨Q, hQ, hv'⟩ := h.vot T e he'
    refine ⟨Q, hQ, fun v hq hm => ?_⟩
    obtain ⟨V, k1, k2, k3⟩ := hv' v hq hm
    refine ⟨V, k1, k2, ?_⟩
    rintro t i n e' (a | ⟨rfl, rfl, rfl⟩) hn ht he2
    · exact k3 t i n e' a hn ht he2
    · have := hv _ _ _ k1; omega
  one := h.one
  vow := h.vow
  vp := by
    rintro v T c V hv2 t i n e' (a | ⟨rfl, rfl, rfl⟩) hn ht he2
    · exact h.vp v T c V hv2 t i n e' a hn ht he2
    · have := hv _ _ _ hv2; omega
  full := h.full

/-! A commit -/
def Hist.addCom (H : Hist) (t0 : Int) (P0 : List Ent) : Hist := { H with com := fun t P => H.com t P ∨ (t = t0 ∧ P = P0) }
theorem Le.addCom (H : Hist) (t0 : Int) (P0 : List Ent) : Le H (H.addCom t0 P0) :=
  ⟨fun _ e h => ⟨e, h, rfl, rfl, List.prefix_refl _⟩, fun _ _ h => .inl h, fun _ _ _ h => h, fun _ _ _ h => h, fun _ _ _ _ h => h⟩
theorem Hist.Ok.addCom (h : H.Ok) {t : Int} {e : El} {F P : List Ent} {Q : Int → Bool} (he : H.el t = some e) (hPF : P <+: F) (hF : F <+: e.cur) (hb : e.base.length < P.length)
    (hQ : maj (cfg F) Q) (hacks : ∀ v, Q v = true → v ∈ cfg F → ∃ i, P.length ≤ i ∧ H.ack v t i)
    (hmem : ∀ (j : Nat) (x : Ent), e.base.length ≤ j → F[j]? = some x → x.kind = 3 → MemBehind H t F j P.length x.data) : (H.addCom t P).Ok where
  pre := h.pre
  own := h.own
  low := h.low
  own_ := h.own_
  pos := h.pos
  dat := h.dat
  mem := fun T e' he' j x hj hx hk => (h.mem T e' he' j x hj hx hk).mono (Le.addCom H t P) (List.prefix_refl _) (by have := (List.getElem?_eq_some_iff.1 hx).1; omega) (Nat.le_refl _)
  com := by
    rintro t' P' (a | ⟨rfl, rfl⟩)
    · obtain ⟨e, F, Q, h1, h2, h3, h4, h5, h6, h7⟩ := h.com t' P' a
      exact ⟨e, F, Q, h1, h2, h3, h4, h5, h6, fun j x hj hx hk => (h7 j x hj hx hk).mono (Le.addCom H t P) (List.prefix_refl _) (by have := (List.getElem?_eq_some_iff.1 hx).1; omega) (Nat.le_refl _)⟩
    · exact ⟨e, F, Q, he, hPF, hF, hb, hQ, hacks, fun j x hj hx hk => (hmem j x hj hx hk).mono (Le.addCom H t' P') (List.prefix_refl _) (by have := (List.getElem?_eq_some_iff.1 hx).1; omega) (Nat.le_refl _)⟩
  ack := h.ack
  vot := h.vot
  one := h.one
  vow := h.vow
  vp := h.vp
  full := by
    rintro t' P' (a | ⟨rfl, rfl⟩) T e' hT he'
    · exact h.full t' P' a T e' hT he'
    · exact h.newCom he hPF hF hb hQ hacks hmem T e' hT he'

/-! An election -/
def Hist.addEl (H : Hist) (T0 c0 : Int) (L0 : List Ent) : Hist := { H with el := fun T => if T = T0 then some ⟨c0, L0, L0⟩ else H.el T }
theorem addEl_ne {T0 c0 : Int} {L0 : List Ent} {T : Int} (h : T ≠ T0) : (H.addEl T0 c0 L0).el T = H.el T := if_neg h
theorem addEl_eq {T0 c0 : Int} {L0 : List Ent} : (H.addEl T0 c0 L0).el T0 = some ⟨c0, L0, L0⟩ := if_pos rfl
theorem addEl_cases {T0 c0 : Int} {L0 : List Ent} {T : Int} {e : El} (h : (H.addEl T0 c0 L0).el T = some e) : (T = T0 ∧ e = ⟨c0, L0, L0⟩) ∨ (T ≠ T0 ∧ H.el T = some e) := by
  by_cases hT : T = T0
  · subst hT
    rw [addEl_eq] at h
    exact .inl ⟨rfl, (Option.some.inj h).symm⟩
  · rw [addEl_ne hT] at h
    exact .inr ⟨hT, h⟩
theorem Le.addEl (H : Hist) (T0 c0 : Int) (L0 : List Ent) (hn : H.el T0 = none) : Le H (H.addEl T0 c0 L0) :=
  ⟨fun T e h => ⟨e, by rw [addEl_ne (by rintro rfl; rw [hn] at h; cases h)]; exact h, rfl, rfl, List.prefix_refl _⟩, fun _ _ h => h, fun _ _ _ h => h, fun _ _ _ h => h, fun _ _ _ _ h => h⟩
theorem Hist.Ok.addEl (h : H.Ok) {T c : Int} {L : List Ent} (hL : Owned H L) (hLT : ∀ x, x ∈ L → x.term < T) (hT : 0 < T) (hn : H.el T = none) {Q : Int → Bool} (hQ : maj (cfg L) Q)
    (hv : ∀ v, Q v = true → v ∈ cfg L → ∃ V, H.vote v T c V ∧ NewerL L V) : (H.addEl T c L).Ok := by
  have hle := Le.addEl H T c L hn
  have hv' : ∀ v, Q v = true → v ∈ cfg L → ∃ V, H.vote v T c V ∧ NewerL L V ∧ ∀ t i n e', H.ack v t i → n ≤ i → t < T → H.el t = some e' → e'.cur.take n <+: V ∨ Lack H t T (e'.cur.take n) := by
    intro v h1 h2
    obtain ⟨V, h3, h4⟩ := hv v h1 h2
    exact ⟨V, h3, h4, h.vp v T c V h3⟩
  have hfull := h.newBase hL hLT hQ hv'
  have hdat : ∀ (j : Nat) (x : Ent), L[j]? = some x → x.index = j + 1 ∧ (x.kind = 3 → membersB x.data = true) ∧ EntOk x := by
    intro j x hx
    obtain ⟨e, h1, h2, h3⟩ := hL j x hx
    exact h.dat _ e h1 j x (pre_get h3 (by rw [List.getElem?_take, if_pos (by omega)]; exact hx))
  refine { pre := ?_, own := ?_, low := ?_, own_ := ?_, pos := ?_, dat := ?_, mem := ?_, com := ?_, ack := ?_, vot := ?_, one := h.one, vow := ?_, vp := ?_, full := ?_ }
  · intro T' e he
    rcases addEl_cases he with ⟨rfl, rfl⟩ | ⟨_, he⟩
    · exact List.prefix_refl _
    · exact h.pre _ _ he
  · intro T' e he
    rcases addEl_cases he with ⟨rfl, rfl⟩ | ⟨_, he⟩
    · exact hL.mono hle
    · exact (h.own _ _ he).mono hle
  · intro T' e he
    rcases addEl_cases he with ⟨rfl, rfl⟩ | ⟨_, he⟩
    · exact hLT
    · exact h.low _ _ he
  · intro T' e he
    rcases addEl_cases he with ⟨rfl, rfl⟩ | ⟨_, he⟩
    · intro j x hj hx
      have := (List.getElem?_eq_some_iff.1 hx).1
      simp only at hj this; omega
    · exact h.own_ _ _ he
  · intro T' e he
    rcases addEl_cases he with ⟨rfl, rfl⟩ | ⟨_, he⟩
    · exact hT
    · exact h.pos _ _ he
  · intro T' e he
    rcases addEl_cases he with ⟨rfl, rfl⟩ | ⟨_, he⟩
    · exact hdat
    · exact h.dat _ _ he
  · intro T' e he j x hj hx hk
    rcases addEl_cases he with ⟨rfl, rfl⟩ | ⟨_, he⟩
    · have := (List.getElem?_eq_some_iff.1 hx).1
      simp only at hj this; omega
    · exact (h.mem _ _ he j x hj hx hk).mono hle (List.prefix_refl _) (by have := (List.getElem?_eq_some_iff.1 hx).1; omega) (Nat.le_refl _)
  · intro t P hc
    obtain ⟨e, F, Q, h1, h2, h3, h4, h5, h6, h7⟩ := h.com t P hc
    exact ⟨e, F, Q, by rw [addEl_ne (by rintro rfl; rw [hn] at h1; cases h1)]; exact h1, h2, h3, h4, h5, h6, fun j x hj hx hk => (h7 j x hj hx hk).mono hle (List.prefix_refl _) (by have := (List.getElem?_eq_some_iff.1 hx).1; omega) (Nat.le_refl _)⟩
  · intro v t i ha
    obtain ⟨e, h1, h2⟩ := h.ack v t i ha
    exact ⟨e, by rw [addEl_ne (by rintro rfl; rw [hn] at h1; cases h1)]; exact h1, h2⟩
  · intro T' e he
    have old : ∀ v t i n e', H.ack v t i → n ≤ i → (H.addEl T c L).el t = some e' → H.el t = some e' := by
      intro v t i n e' ha _ he'
      obtain ⟨e2, h1, _⟩ := h.ack v t i ha
      rwa [addEl_ne (by rintro rfl; rw [hn] at h1; cases h1)] at he'
    rcases addEl_cases he with ⟨rfl, rfl⟩ | ⟨_, he⟩
    · refine ⟨Q, hQ, fun v h1 h2 => ?_⟩
      obtain ⟨V, h3, h4, h5⟩ := hv' v h1 h2
      refine ⟨V, h3, h4, fun t i n e' ha hni ht he' => ?_⟩
      rcases h5 t i n e' ha hni ht (old v t i n e' ha hni he') with h6 | ⟨T1, e1, a1, a2, a3, a4⟩
      · exact .inl h6
      · have hne : T1 ≠ T' := by rintro rfl; rw [hn] at a3; cases a3
        exact .inr ⟨T1, e1, a1, by omega, by rw [addEl_ne hne]; exact a3, a4⟩
    · obtain ⟨Q', hQ', hv2⟩ := h.vot T' e he
      refine ⟨Q', hQ', fun v h1 h2 => ?_⟩
      obtain ⟨V, h3, h4, h5⟩ := hv2 v h1 h2
      refine ⟨V, h3, h4, fun t i n e' ha hni ht he' => ?_⟩
      rcases h5 t i n e' ha hni ht (old v t i n e' ha hni he') with h6 | h6
      · exact .inl h6
      · exact .inr (h6.mono hle (Int.le_refl _))
  · intro v T' c' V hv0
    exact (h.vow _ _ _ _ hv0).mono hle
  · intro v T' c' V hv0 t i n e' ha hni ht he'
    obtain ⟨e2, h1, _⟩ := h.ack v t i ha
    rw [addEl_ne (by rintro rfl; rw [hn] at h1; cases h1)] at he'
    rcases h.vp v T' c' V hv0 t i n e' ha hni ht he' with h6 | h6
    · exact .inl h6
    · exact .inr (h6.mono hle (Int.le_refl _))
  · intro t P hc T' e htT he
    rcases addEl_cases he with ⟨rfl, rfl⟩ | ⟨_, he⟩
    · exact hfull t P hc htT
    · exact h.full t P hc T' e htT he

/-! The leader lays one more -/
def Hist.lay (H : Hist) (T0 : Int) (x : Ent) : Hist := { H with el := fun T => if T = T0 then (H.el T).map fun e => { e with cur := e.cur ++ [x] } else H.el T }
theorem lay_ne {T0 : Int} {x : Ent} {T : Int} (h : T ≠ T0) : (H.lay T0 x).el T = H.el T := if_neg h
theorem lay_eq {T0 : Int} {x : Ent} {e : El} (h : H.el T0 = some e) : (H.lay T0 x).el T0 = some { e with cur := e.cur ++ [x] } := by
  show (if T0 = T0 then _ else _) = _
  rw [if_pos rfl, h]; rfl
theorem lay_cases {T0 : Int} {x : Ent} {T : Int} {e : El} (h : (H.lay T0 x).el T = some e) : ∃ e0, H.el T = some e0 ∧ ((T = T0 ∧ e = { e0 with cur := e0.cur ++ [x] }) ∨ (T ≠ T0 ∧ e = e0)) := by
  by_cases hT : T = T0
  · subst hT
    cases h0 : H.el T with
    | none =>
      have : (H.lay T x).el T = none := by show (if T = T then _ else _) = _; rw [if_pos rfl, h0]; rfl
      rw [this] at h; cases h
    | some e0 =>
      rw [lay_eq h0] at h
      exact ⟨e0, rfl, .inl ⟨rfl, (Option.some.inj h).symm⟩⟩
  · rw [lay_ne hT] at h
    exact ⟨e, h, .inr ⟨hT, rfl⟩⟩
theorem Le.lay (H : Hist) (T0 : Int) (x : Ent) : Le H (H.lay T0 x) :=
  ⟨fun T e h => by
    by_cases hT : T = T0
    · subst hT; exact ⟨_, lay_eq h, rfl, rfl, List.prefix_append _ _⟩
    · exact ⟨e, by rw [lay_ne hT]; exact h, rfl, rfl, List.prefix_refl _⟩, fun _ _ h => h, fun _ _ _ h => h, fun _ _ _ h => h, fun _ _ _ _ h => h⟩
/-- what was acked is not changed by it -/
theorem lay_take (h : H.Ok) {T0 : Int} {x : Ent} {v t : Int} {i n : Nat} {e : El} (ha : H.ack v t i) (hn : n ≤ i) (he : (H.lay T0 x).el t = some e) : ∃ e0, H.el t = some e0 ∧ e.cur.take n = e0.cur.take n := by
  obtain ⟨e0, h0, hc⟩ := lay_cases he
  obtain ⟨e1, h1, h2⟩ := h.ack v t i ha
  rw [h0] at h1
  obtain rfl := Option.some.inj h1
  refine ⟨e0, h0, ?_⟩
  rcases hc with ⟨rfl, rfl⟩ | ⟨_, rfl⟩
  · exact List.take_append_of_le_length (by omega)
  · rfl
theorem Hist.Ok.lay (h : H.Ok) {T : Int} {e : El} {x : Ent} (he : H.el T = some e) (hx : x.term = T) (hi : x.index = e.cur.length + 1) (hm : x.kind = 3 → membersB x.data = true) (hE : EntOk x)
    (hk : x.kind = 3 → MemBehind H T e.cur e.cur.length (e.cur.length + 1) x.data) : (H.lay T x).Ok := by
  have hle := Le.lay H T x
  have hbase : ∀ {T' e'}, (H.lay T x).el T' = some e' → ∃ e0, H.el T' = some e0 ∧ e'.base = e0.base ∧ e'.ldr = e0.ldr ∧ e0.cur <+: e'.cur := by
    intro T' e' he'
    obtain ⟨e0, h0, hc⟩ := lay_cases he'
    rcases hc with ⟨rfl, rfl⟩ | ⟨_, rfl⟩
    · exact ⟨e0, h0, rfl, rfl, List.prefix_append _ _⟩
    · exact ⟨e', h0, rfl, rfl, List.prefix_refl _⟩
  have hat : ∀ {T' e'}, (H.lay T x).el T' = some e' → ∀ {j : Nat} {y : Ent}, e'.cur[j]? = some y → ∃ e0, H.el T' = some e0 ∧ e'.base = e0.base ∧ (e0.cur[j]? = some y ∨ (T' = T ∧ e0 = e ∧ j = e.cur.length ∧ y = x)) := by
    intro T' e' he' j y hy
    obtain ⟨e0, h0, hc⟩ := lay_cases he'
    rcases hc with ⟨rfl, rfl⟩ | ⟨_, rfl⟩
    · refine ⟨e0, h0, rfl, ?_⟩
      rw [he] at h0
      obtain rfl := Option.some.inj h0
      by_cases hj : j < e.cur.length
      · rw [List.getElem?_append_left hj] at hy; exact .inl hy
      · have hjl := (List.getElem?_eq_some_iff.1 hy).1
        have hje : j = e.cur.length := by simp at hjl; omega
        subst hje
        rw [List.getElem?_append_right (Nat.le_refl _)] at hy
        simp at hy
        exact .inr ⟨rfl, rfl, rfl, hy.symm⟩
    · exact ⟨e', h0, rfl, .inl hy⟩
  refine { pre := ?_, own := ?_, low := ?_, own_ := ?_, pos := ?_, dat := ?_, mem := ?_, com := ?_, ack := ?_, vot := ?_, one := h.one, vow := ?_, vp := ?_, full := ?_ }
  · intro T' e' he'
    obtain ⟨e0, h0, h1, _, h2⟩ := hbase he'
    rw [h1]; exact (h.pre _ _ h0).trans h2
  · intro T' e' he'
    obtain ⟨e0, h0, h1, _, h2⟩ := hbase he'
    rw [h1]; exact (h.own _ _ h0).mono hle
  · intro T' e' he'
    obtain ⟨e0, h0, h1, _, h2⟩ := hbase he'
    rw [h1]; exact h.low _ _ h0
  · intro T' e' he' j y hj hy
    obtain ⟨e0, h0, h1, hc⟩ := hat he' hy
    rcases hc with hc | ⟨rfl, rfl, rfl, rfl⟩
    · exact h.own_ _ _ h0 j y (by rw [← h1]; exact hj) hc
    · exact hx
  · intro T' e' he'
    obtain ⟨e0, h0, _⟩ := hbase he'
    exact h.pos _ _ h0
  · intro T' e' he' j y hy
    obtain ⟨e0, h0, h1, hc⟩ := hat he' hy
    rcases hc with hc | ⟨rfl, rfl, rfl, rfl⟩
    · exact h.dat _ _ h0 j y hc
    · exact ⟨hi, hm, hE⟩
  · intro T' e' he' j y hj hy hk'
    obtain ⟨e0, h0, h1, hc⟩ := hat he' hy
    obtain ⟨e1, h0', _, _, hp⟩ := hbase he'
    rw [h0] at h0'
    obtain rfl := Option.some.inj h0'
    rcases hc with hc | ⟨rfl, rfl, rfl, rfl⟩
    · exact (h.mem _ _ h0 j y (by rw [← h1]; exact hj) hc hk').mono hle hp (by have := (List.getElem?_eq_some_iff.1 hc).1; omega) (Nat.le_refl _)
    · exact (hk hk').mono hle hp (Nat.le_refl _) (Nat.le_refl _)
  · intro t P hc
    obtain ⟨e1, F, Q, h1, h2, h3, h4, h5, h6, h7⟩ := h.com t P hc
    obtain ⟨e2, k1, k2, k3, k4⟩ := hle.el _ _ h1
    exact ⟨e2, F, Q, k1, h2, h3.trans k4, by rw [k3]; exact h4, h5, h6, fun j y hj hy hk' => (h7 j y (by rw [← k3]; exact hj) hy hk').mono hle (List.prefix_refl _) (by have := (List.getElem?_eq_some_iff.1 hy).1; omega) (Nat.le_refl _)⟩
  · intro v t i ha
    obtain ⟨e1, h1, h2⟩ := h.ack v t i ha
    obtain ⟨e2, k1, k2, k3, k4⟩ := hle.el _ _ h1
    exact ⟨e2, k1, by have := k4.length_le; omega⟩
  · intro T' e' he'
    obtain ⟨e0, h0, h1, h1', h2⟩ := hbase he'
    obtain ⟨Q, hQ, hv⟩ := h.vot T' e0 h0
    rw [h1, h1']
    refine ⟨Q, hQ, fun v a b => ?_⟩
    obtain ⟨V, h3, h4, h5⟩ := hv v a b
    refine ⟨V, h3, h4, fun t i n e2 ha hni ht he2 => ?_⟩
    obtain ⟨e3, k1, k2⟩ := lay_take h ha hni he2
    rw [k2]
    rcases h5 t i n e3 ha hni ht k1 with h6 | h6
    · exact .inl h6
    · exact .inr (h6.mono hle (Int.le_refl _))
  · intro v T' c' V hv0
    exact (h.vow _ _ _ _ hv0).mono hle
  · intro v T' c' V hv0 t i n e2 ha hni ht he2
    obtain ⟨e3, k1, k2⟩ := lay_take h ha hni he2
    rw [k2]
    rcases h.vp v T' c' V hv0 t i n e3 ha hni ht k1 with h6 | h6
    · exact .inl h6
    · exact .inr (h6.mono hle (Int.le_refl _))
  · intro t P hc T' e' htT he'
    obtain ⟨e0, h0, h1, _, h2⟩ := hbase he'
    rw [h1]
    exact h.full t P hc T' e0 htT h0
end
end Go.Proofs.Ytibkmhacpodceaa

/- Plain law: nodes and messages against the history; the small moves of a node. Nothing of memory. -/
namespace Go.Proofs.Ytibkmhacpodceaa

structure NodeOk (H : Hist) (k : Int) (r : RaftM) (f : List Ent) : Prop where
  id : r.id = k
  k0 : 1 ≤ k
  k1 : k ≤ 5
  t0 : 0 ≤ r.term
  si0 : 0 ≤ r.log.sI
  si1 : r.log.sI ≤ r.log.commit
  c1 : r.log.commit ≤ f.length
  ents : r.log.ents = f.drop r.log.sI.toNat
  sT : r.log.sT = lastT (f.take r.log.sI.toNat)
  sM : r.log.sM = cfg (f.take r.log.sI.toNat)
  own : Owned H f
  top : ∀ x, x ∈ f → x.term ≤ r.term
  com : Committed H r.term (f.take r.log.commit.toNat)
  acks : ∀ t i n e, H.ack k t i → n ≤ i → H.el t = some e → t ≤ r.term ∧ (e.cur.take n <+: f ∨ Lack H t r.term (e.cur.take n))
  vts : ∀ T c V, H.vote k T c V → T ≤ r.term ∧ (T = r.term → r.vote = c ∧ c ≠ 0)
  cnd : ∀ T B, H.cand k T = some B → T ≤ r.term
  els : ∀ T e, H.el T = some e → e.ldr = k → T ≤ r.term ∧ (T = r.term → r.role ≠ 2)
  role : r.role = 1 ∨ r.role = 2 ∨ r.role = 3
  c2 : r.role = 2 → H.cand k r.term = some f ∧ (∀ x, x ∈ f → x.term < r.term) ∧ 0 < r.term ∧ ∀ p, r.voted p = true → 1 ≤ p → p ≤ 5 → ∃ V, H.vote p r.term k V ∧ NewerL f V
  c3 : r.role = 3 → ∃ e, H.el r.term = some e ∧ e.ldr = k ∧ e.cur = f ∧
    (∀ p, 1 ≤ p → p ≤ 5 → 1 ≤ r.next p ∧ r.next p ≤ f.length + 1 ∧ 0 ≤ r.match_ p ∧ (r.match_ p = 0 ∨ ∃ i : Nat, H.ack p r.term i ∧ r.match_ p ≤ i)) ∧
    ∀ (j : Nat) (x : Ent), e.base.length ≤ j → f[j]? = some x → x.kind = 3 → MemBehind H r.term f j (r.log.commit.toNat + 1) x.data
  c4 : r.role = 3 → ∀ e, H.el r.term = some e → r.log.commit ≤ e.base.length ∨ H.com r.term (f.take r.log.commit.toNat)

structure MsgOk (H : Hist) (m : Msg) : Prop where
  f0 : 1 ≤ m.from_
  f1 : m.from_ ≤ 5
  m1 : m.kind = 1 → ∃ B, H.cand m.from_ m.term = some B ∧ m.index = B.length ∧ m.logTerm = lastT B
  m2 : m.kind = 2 → m.ok = true → ∃ V B, H.vote m.from_ m.term m.to_ V ∧ H.cand m.to_ m.term = some B ∧ NewerL B V
  m3 : m.kind = 3 → ∃ e, H.el m.term = some e ∧ 0 ≤ m.index ∧ m.index.toNat + m.entries.length ≤ e.cur.length ∧ m.entries = (e.cur.drop m.index.toNat).take m.entries.length ∧
    m.logTerm = lastT (e.cur.take m.index.toNat) ∧ 0 ≤ m.commit ∧ m.commit ≤ e.cur.length ∧ Committed H m.term (e.cur.take m.commit.toNat)
  m4 : m.kind = 4 → 0 ≤ m.index ∧ (m.ok = true → m.index = 0 ∨ ∃ i : Nat, H.ack m.from_ m.term i ∧ m.index ≤ i)
  m5 : m.kind = 5 → ∃ e, H.el m.term = some e ∧ 0 ≤ m.index ∧ m.index.toNat ≤ e.cur.length ∧ m.logTerm = lastT (e.cur.take m.index.toNat) ∧ m.members = cfg (e.cur.take m.index.toNat) ∧ Committed H m.term (e.cur.take m.index.toNat)

theorem MsgOk.mono {H H' : Hist} (hl : Le H H') {m : Msg} (h : MsgOk H m) : MsgOk H' m where
  f0 := h.f0
  f1 := h.f1
  m1 := fun hk => by
    obtain ⟨B, h1, h2⟩ := h.m1 hk
    exact ⟨B, hl.cand _ _ _ h1, h2⟩
  m2 := fun hk ho => by
    obtain ⟨V, B, h1, h2, h3⟩ := h.m2 hk ho
    exact ⟨V, B, hl.vote _ _ _ _ h1, hl.cand _ _ _ h2, h3⟩
  m3 := fun hk => by
    obtain ⟨e, h1, h2, h3, h4, h5, h6, h7, h8⟩ := h.m3 hk
    obtain ⟨e', k1, _, _, k4⟩ := hl.el _ _ h1
    have hle := k4.length_le
    refine ⟨e', k1, h2, by omega, ?_, ?_, h6, by omega, ?_⟩
    · obtain ⟨Z, hZ⟩ := k4
      rw [← hZ, List.drop_append_of_le_length (by omega), List.take_append_of_le_length (by rw [List.length_drop]; omega)]
      exact h4
    · rw [take_of_pre k4 (by omega)]; exact h5
    · rw [take_of_pre k4 (by omega)]; exact h8.mono hl (Int.le_refl _)
  m4 := fun hk => by
    obtain ⟨h1, h2⟩ := h.m4 hk
    refine ⟨h1, fun ho => ?_⟩
    rcases h2 ho with h3 | ⟨i, h3, h4⟩
    · exact .inl h3
    · exact .inr ⟨i, hl.ack _ _ _ h3, h4⟩
  m5 := fun hk => by
    obtain ⟨e, h1, h2, h3, h4, h5, h6⟩ := h.m5 hk
    obtain ⟨e', k1, _, _, k4⟩ := hl.el _ _ h1
    have hle := k4.length_le
    refine ⟨e', k1, h2, by omega, ?_, ?_, ?_⟩
    all_goals rw [take_of_pre k4 (by omega)]
    · exact h4
    · exact h5
    · exact h6.mono hl (Int.le_refl _)

/-- the history grows by what node k does -/
structure Grow (k : Int) (H H' : Hist) : Prop where
  le : Le H H'
  el : ∀ T e', H'.el T = some e' → e'.ldr ≠ k → H.el T = some e'
  ack : ∀ v t i, v ≠ k → H'.ack v t i → H.ack v t i
  vote : ∀ v T c V, v ≠ k → H'.vote v T c V → H.vote v T c V
  cand : ∀ c T B, c ≠ k → H'.cand c T = some B → H.cand c T = some B
theorem Grow.refl (k : Int) (H : Hist) : Grow k H H := ⟨Le.refl H, fun _ _ h _ => h, fun _ _ _ _ h => h, fun _ _ _ _ _ h => h, fun _ _ _ _ h => h⟩
theorem Grow.trans {k : Int} {H H' H'' : Hist} (a : Grow k H H') (b : Grow k H' H'') : Grow k H H'' :=
  ⟨a.le.trans b.le, fun T e h hn => a.el T e (b.el T e h hn) hn, fun v t i hn h => a.ack v t i hn (b.ack v t i hn h), fun v T c V hn h => a.vote v T c V hn (b.vote v T c V hn h), fun c T B hn h => a.cand c T B hn (b.cand c T B hn h)⟩

theorem NodeOk.grow {k j : Int} {H H' : Hist} {r : RaftM} {f : List Ent} (hH : H.Ok) (n : NodeOk H j r f) (g : Grow k H H') (hj : j ≠ k) : NodeOk H' j r f where
  id := n.id
  k0 := n.k0
  k1 := n.k1
  t0 := n.t0
  si0 := n.si0
  si1 := n.si1
  c1 := n.c1
  ents := n.ents
  sT := n.sT
  sM := n.sM
  own := n.own.mono g.le
  top := n.top
  com := n.com.mono g.le (Int.le_refl _)
  acks := fun t i m e ha hm he => by
    have ha := g.ack _ _ _ hj ha
    obtain ⟨e0, h1, h2⟩ := hH.ack _ _ _ ha
    obtain ⟨e1, k1, k2, k3, k4⟩ := g.le.el _ _ h1
    rw [he] at k1
    obtain rfl := Option.some.inj k1
    obtain ⟨h3, h4⟩ := n.acks t i m e0 ha hm h1
    rw [take_of_pre k4 (by omega)]
    refine ⟨h3, ?_⟩
    rcases h4 with h4 | h4
    · exact .inl h4
    · exact .inr (h4.mono g.le (Int.le_refl _))
  vts := fun T c V hv => n.vts T c V (g.vote _ _ _ _ hj hv)
  cnd := fun T B hc => n.cnd T B (g.cand _ _ _ hj hc)
  els := fun T e he hl => n.els T e (g.el T e he (by rw [hl]; exact hj)) hl
  role := n.role
  c2 := fun hr => by
    obtain ⟨h1, h2, h3, h4⟩ := n.c2 hr
    refine ⟨g.le.cand _ _ _ h1, h2, h3, fun p a b c => ?_⟩
    obtain ⟨V, h5, h6⟩ := h4 p a b c
    exact ⟨V, g.le.vote _ _ _ _ h5, h6⟩
  c3 := fun hr => by
    obtain ⟨e, h1, h2, h3, h4, h5⟩ := n.c3 hr
    obtain ⟨e', k1, k2, k3, k4⟩ := g.le.el _ _ h1
    have := g.el _ _ k1 (by rw [k2, h2]; exact hj)
    rw [h1] at this
    obtain rfl := Option.some.inj this
    refine ⟨e, k1, h2, h3, fun p a b => ?_, fun i x hi hx hk => (h5 i x hi hx hk).mono g.le (List.prefix_refl _) (by have := (List.getElem?_eq_some_iff.1 hx).1; omega) (Nat.le_refl _)⟩
    obtain ⟨q1, q2, q3, q4⟩ := h4 p a b
    refine ⟨q1, q2, q3, ?_⟩
    rcases q4 with q4 | ⟨i, q4, q5⟩
    · exact .inl q4
    · exact .inr ⟨i, g.le.ack _ _ _ q4, q5⟩
  c4 := fun hr e he => by
    obtain ⟨e0, h1, _⟩ := n.c3 hr
    obtain ⟨e', k1, _, k3, _⟩ := g.le.el _ _ h1
    rw [he] at k1
    obtain rfl := Option.some.inj k1
    rw [k3]
    rcases n.c4 hr e0 h1 with h | h
    · exact .inl h
    · exact .inr (g.le.com _ _ h)

/-! What a log tells -/
section
variable {H : Hist} {k : Int} {r : RaftM} {f : List Ent}
theorem Hist.Ok.index (hH : H.Ok) {X : List Ent} (hX : Owned H X) {j : Nat} {x : Ent} (hx : X[j]? = some x) : x.index = j + 1 ∧ (x.kind = 3 → membersB x.data = true) ∧ EntOk x := by
  obtain ⟨e, h1, h2, h3⟩ := hX j x hx
  exact hH.dat _ e h1 j x (pre_get h3 (by rw [List.getElem?_take, if_pos (by omega)]; exact hx))
theorem NodeOk.sil (n : NodeOk H k r f) : r.log.sI.toNat ≤ f.length := by have := n.si1; have := n.c1; omega
theorem NodeOk.last (hH : H.Ok) (n : NodeOk H k r f) : r.log.last = ((f.length : Int), lastT f) := by
  unfold LogM.last
  have hs := n.sil
  have h0 := n.si0
  rw [n.ents]
  cases hg : (f.drop r.log.sI.toNat).getLast? with
  | none =>
    rw [List.getLast?_eq_none_iff, List.drop_eq_nil_iff] at hg
    have : f.take r.log.sI.toNat = f := List.take_of_length_le hg
    simp only [n.sT, this, Prod.mk.injEq, and_true]; omega
  | some x =>
    rw [List.getLast?_eq_getElem?, List.getElem?_drop, List.length_drop] at hg
    have hl := (List.getElem?_eq_some_iff.1 hg).1
    have e : r.log.sI.toNat + (f.length - r.log.sI.toNat - 1) = f.length - 1 := by omega
    rw [e] at hg
    simp only [Prod.mk.injEq]
    refine ⟨?_, (lastT_get hg).symm⟩
    rw [(hH.index n.own hg).1]; omega
theorem NodeOk.last1 (hH : H.Ok) (n : NodeOk H k r f) : r.log.last.1 = f.length := by rw [n.last hH]
theorem NodeOk.last2 (hH : H.Ok) (n : NodeOk H k r f) : r.log.last.2 = lastT f := by rw [n.last hH]
theorem NodeOk.members (n : NodeOk H k r f) : r.log.members = cfg f := by
  unfold LogM.members
  rw [n.sM, n.ents, ← cfg_split]
theorem NodeOk.entry (n : NodeOk H k r f) {i : Int} (h0 : r.log.sI < i) (h1 : i ≤ f.length) : r.log.entry i = f[(i - 1).toNat]? := by
  have := n.sil
  have := n.si0
  unfold LogM.entry
  rw [n.ents, List.length_drop, if_neg (by omega), List.getElem?_drop]
  congr 1; omega
theorem NodeOk.entry_none (n : NodeOk H k r f) {i : Int} (h : i ≤ r.log.sI ∨ (f.length : Int) < i) : r.log.entry i = none := by
  have := n.sil
  have := n.si0
  unfold LogM.entry
  rw [n.ents, List.length_drop, if_pos (by omega)]
theorem NodeOk.termAt (n : NodeOk H k r f) {i : Int} (h0 : r.log.sI ≤ i) (h1 : i ≤ f.length) : r.log.termAt i = some (lastT (f.take i.toNat)) := by
  have := n.si0
  unfold LogM.termAt
  by_cases he : i = r.log.sI
  · rw [if_pos he, n.sT, he]
  · rw [if_neg he, n.entry (by omega) h1]
    obtain ⟨x, hx⟩ : ∃ x, f[(i - 1).toNat]? = some x := ⟨_, List.getElem?_eq_getElem (by omega)⟩
    rw [hx]
    have := lastT_take hx
    rw [show (i - 1).toNat + 1 = i.toNat by omega] at this
    rw [this]; rfl
theorem NodeOk.termAt_none (n : NodeOk H k r f) {i : Int} (h : i < r.log.sI ∨ (f.length : Int) < i) : r.log.termAt i = none := by
  have := n.sil
  have := n.si0
  unfold LogM.termAt
  rw [if_neg (by omega), n.entry_none (by omega)]; rfl
theorem lastT_mem {X : List Ent} (h : 0 < X.length) : ∃ x, x ∈ X ∧ X[X.length - 1]? = some x ∧ lastT X = x.term := by
  obtain ⟨x, hx⟩ : ∃ x, X[X.length - 1]? = some x := ⟨_, List.getElem?_eq_getElem (by omega)⟩
  exact ⟨x, List.mem_of_getElem? hx, hx, lastT_get hx⟩
/-- equal last terms at one place: equal beginnings -/
theorem Hist.Ok.takeEq (hH : H.Ok) {X Y : List Ent} (hX : Owned H X) (hY : Owned H Y) {i : Nat} (h1 : i ≤ X.length) (h2 : i ≤ Y.length) (ht : lastT (X.take i) = lastT (Y.take i)) : X.take i = Y.take i := by
  cases i with
  | zero => rfl
  | succ i =>
    obtain ⟨x, hx⟩ : ∃ x, X[i]? = some x := ⟨_, List.getElem?_eq_getElem (by omega)⟩
    obtain ⟨y, hy⟩ : ∃ y, Y[i]? = some y := ⟨_, List.getElem?_eq_getElem (by omega)⟩
    rw [lastT_take hx, lastT_take hy] at ht
    exact hH.matchAt hX hY hx hy ht
end

/-! Sizes -/
def Bd (z : Int) (r : RaftM) : Prop := r.term ≤ z ∧ 0 ≤ r.elapsed ∧ r.elapsed ≤ z ∧ (∀ q, 0 ≤ r.next q ∧ r.next q ≤ z + 1 ∧ 0 ≤ r.match_ q ∧ r.match_ q ≤ z) ∧ (r.state.length ≤ 100 ∧ 0 ≤ r.vote ∧ r.vote ≤ 5)
structure MB (z : Int) (m : Msg) : Prop where
  kd : 1 ≤ m.kind ∧ m.kind ≤ 5
  to_ : 1 ≤ m.to_ ∧ m.to_ ≤ 5
  term : 0 ≤ m.term ∧ m.term ≤ z
  index : 0 ≤ m.index ∧ m.index ≤ z
  logTerm : 0 ≤ m.logTerm ∧ m.logTerm ≤ z
  commit : 0 ≤ m.commit ∧ m.commit ≤ z
  elen : m.entries.length ≤ 64
  ent : ∀ x, x ∈ m.entries → 0 ≤ x.index ∧ x.index ≤ z ∧ 0 ≤ x.term ∧ x.term ≤ z ∧ EntOk x
  mem : m.members.length ≤ 5
  data : m.data.length ≤ 100
theorem Bd.mono {z z' : Int} {r : RaftM} (h : Bd z r) (hz : z ≤ z') : Bd z' r :=
  ⟨by have := h.1; omega, h.2.1, by have := h.2.2.1; omega, fun q => by obtain ⟨a, b, c, d⟩ := h.2.2.2.1 q; exact ⟨a, by omega, c, by omega⟩, h.2.2.2.2⟩
theorem MB.mono {z z' : Int} {m : Msg} (h : MB z m) (hz : z ≤ z') : MB z' m := by
  obtain ⟨h1, h2, h3, h4, h5, h6, h7, h8, h9, h10⟩ := h
  exact ⟨h1, h2, by omega, by omega, by omega, by omega, h7, fun x hx => by obtain ⟨a, b, c, d, e⟩ := h8 x hx; exact ⟨a, by omega, c, by omega, e⟩, h9, h10⟩

/-! All together, from node k's eyes -/
structure Sys (z : Int) (rs : Int → RaftM) (fs : Int → List Ent) (sent : List Msg) (H0 : Hist) (k : Int) (H : Hist) (r : RaftM) (f : List Ent) : Prop where
  le0 : Le H0 H
  h : H.Ok
  oth : ∀ j, 1 ≤ j → j ≤ 5 → j ≠ k → NodeOk H j (rs j) (fs j)
  me : NodeOk H k r f
  mb : ∀ m, m ∈ sent → MB z m
  sent : ∀ m, m ∈ sent → MsgOk H m
  out : ∀ m, m ∈ r.out → MsgOk H m
  size : ∀ T e, H.el T = some e → (e.cur.length : Int) ≤ z
  nn : 0 ≤ z
  bd : Bd z r
  mo : ∀ m, m ∈ r.out → MB z m

section
variable {z z' : Int} {rs : Int → RaftM} {fs : Int → List Ent} {sent : List Msg} {H0 : Hist} {k : Int} {H H' : Hist} {r r' : RaftM} {f f' : List Ent}
theorem Sys.move (s : Sys z rs fs sent H0 k H r f) (g : Grow k H H') (h' : H'.Ok) (hn : NodeOk H' k r' f') (ho : ∀ m, m ∈ r'.out → m ∈ r.out ∨ (MsgOk H' m ∧ MB z' m)) (hz : ∀ T e, H'.el T = some e → (e.cur.length : Int) ≤ z') (hb : Bd z' r') (hnn : z ≤ z' := by omega) : Sys z' rs fs sent H0 k H' r' f' where
  le0 := s.le0.trans g.le
  h := h'
  oth := fun j a b c => (s.oth j a b c).grow s.h g c
  me := hn
  sent := fun m hm => (s.sent m hm).mono g.le
  out := fun m hm => by
    rcases ho m hm with h | h
    · exact (s.out m h).mono g.le
    · exact h.1
  size := hz
  nn := Int.le_trans s.nn hnn
  bd := hb
  mb := fun m hm => (s.mb m hm).mono hnn
  mo := fun m hm => by
    rcases ho m hm with h | h
    · exact (s.mo m h).mono hnn
    · exact h.2
theorem Sys.stay (s : Sys z rs fs sent H0 k H r f) (hn : NodeOk H k r' f') (ho : ∀ m, m ∈ r'.out → m ∈ r.out ∨ (MsgOk H m ∧ MB z m)) (hb : Bd z r') : Sys z rs fs sent H0 k H r' f' := s.move (Grow.refl k H) s.h hn ho s.size hb
theorem Sys.mono (s : Sys z rs fs sent H0 k H r f) (h : z ≤ z') : Sys z' rs fs sent H0 k H r f :=
  ⟨s.le0, s.h, s.oth, s.me, fun m hm => (s.mb m hm).mono h, s.sent, s.out, fun T e he => by have := s.size T e he; omega, Int.le_trans s.nn h, s.bd.mono h, fun m hm => (s.mo m hm).mono h⟩

/-- only what is forgotten anyway -/
theorem NodeOk.same (n : NodeOk H k r f) (h1 : r'.id = r.id) (h2 : r'.term = r.term) (h3 : r'.vote = r.vote) (h4 : r'.log = r.log) (h5 : r'.role = r.role) (h6 : r'.votes = r.votes) (h7 : r'.others = r.others) : NodeOk H k r' f := by
  obtain ⟨a1, a2, a3, a4, a5, a6, a7, a8, a9, a10, a11, a12, a13, a14, a15, a16, a17, a18, a19, a20, a21⟩ := n
  constructor <;> (try unfold RaftM.voted) <;> (try unfold RaftM.next) <;> (try unfold RaftM.match_) <;> (try rw [h1]) <;> (try rw [h2]) <;> (try rw [h3]) <;> (try rw [h4]) <;> (try rw [h5]) <;> (try rw [h6]) <;> (try rw [h7]) <;> assumption
/-- it stops leading, or standing -/
theorem NodeOk.low (n : NodeOk H k r f) (h1 : r'.id = r.id) (h2 : r'.term = r.term) (h3 : r'.vote = r.vote) (h4 : r'.log = r.log) (h5 : r'.role = 1) : NodeOk H k r' f := by
  obtain ⟨a1, a2, a3, a4, a5, a6, a7, a8, a9, a10, a11, a12, a13, a14, a15, a16, a17, a18, a19, a20, a21⟩ := n
  refine ⟨by rw [h1]; exact a1, a2, a3, by rw [h2]; exact a4, by rw [h4]; exact a5, by rw [h4]; exact a6, by rw [h4]; exact a7, by rw [h4]; exact a8, by rw [h4]; exact a9, by rw [h4]; exact a10, a11, by rw [h2]; exact a12, by rw [h2, h4]; exact a13, by rw [h2]; exact a14,
    by rw [h2, h3]; exact a15, by rw [h2]; exact a16, fun T e he hl => ⟨by rw [h2]; exact (a17 T e he hl).1, fun _ => by rw [h5]; decide⟩, .inl h5, fun h => by rw [h5] at h; exact absurd h (by decide), fun h => by rw [h5] at h; exact absurd h (by decide), fun h => by rw [h5] at h; exact absurd h (by decide)⟩

theorem Sys.send (s : Sys z rs fs sent H0 k H r f) {m : Msg} (hm : MsgOk H { m with group := r.group, from_ := r.id, term := r.term }) (hb : MB z { m with group := r.group, from_ := r.id, term := r.term }) : Sys z rs fs sent H0 k H (r.send m) f :=
  s.stay (s.me.same rfl rfl rfl rfl rfl rfl rfl) (fun m' h => by
    rcases List.mem_append.1 h with h | h
    · exact .inl h
    · rw [List.mem_singleton] at h
      subst h; exact .inr ⟨hm, hb⟩) s.bd

/-- a higher term -/
theorem Sys.follow (s : Sys z rs fs sent H0 k H r f) {t : Int} (ht : r.term < t) (htz : t ≤ z) : Sys z rs fs sent H0 k H (r.follow t) f := by
  have hf : r.follow t = { r with term := t, vote := 0, role := 1, leader := 0 } := by unfold RaftM.follow; rw [if_pos ht]
  rw [hf]
  obtain ⟨a1, a2, a3, a4, a5, a6, a7, a8, a9, a10, a11, a12, a13, a14, a15, a16, a17, a18, a19, a20, a21⟩ := s.me
  refine s.stay ⟨a1, a2, a3, ?_, a5, a6, a7, a8, a9, a10, a11, fun x hx => ?_, ?_, fun t' i n e ha hn he => ?_, fun T c V hv => ?_, fun T B hc => ?_, fun T e he hl => ?_, .inl rfl, fun h => absurd (show (1 : Int) = 2 from h) (by decide), fun h => absurd (show (1 : Int) = 3 from h) (by decide), fun h => absurd (show (1 : Int) = 3 from h) (by decide)⟩ (fun m h => .inl h) ⟨htz, s.bd.2.1, s.bd.2.2.1, s.bd.2.2.2.1, s.bd.2.2.2.2.1, Int.le_refl _, by show (0 : Int) ≤ 5; omega⟩
  · show 0 ≤ t; omega
  · have := a12 x hx; show x.term ≤ t; omega
  · exact a13.mono (Le.refl H) (by show r.term ≤ t; omega)
  · obtain ⟨h1, h2⟩ := a14 t' i n e ha hn he
    refine ⟨by show t' ≤ t; omega, ?_⟩
    rcases h2 with h2 | h2
    · exact .inl h2
    · exact .inr (h2.mono (Le.refl H) (by show r.term ≤ t; omega))
  · have := (a15 T c V hv).1
    exact ⟨by show T ≤ t; omega, fun h => by have : T = t := h; omega⟩
  · have := a16 T B hc
    show T ≤ t; omega
  · have := (a17 T e he hl).1
    exact ⟨by show T ≤ t; omega, fun _ => (by decide : (1 : Int) ≠ 2)⟩

/-- it votes -/
theorem Grow.addVote (H : Hist) (k T c : Int) (V : List Ent) : Grow k H (H.addVote k T c V) :=
  ⟨Le.addVote H k T c V, fun _ _ h _ => h, fun _ _ _ _ h => h, fun v T' c' V' hv h => by
    rcases h with h | ⟨h, _⟩
    · exact h
    · exact absurd h hv, fun _ _ _ _ h => h⟩
theorem Sys.vote (s : Sys z rs fs sent H0 k H r f) {c : Int} (hc : c ≠ 0) (hcb : 0 ≤ c ∧ c ≤ 5) (hv : r.vote = 0 ∨ r.vote = c) : Sys z rs fs sent H0 k (H.addVote k r.term c f) { r with vote := c, elapsed := 0 } f := by
  have hu : ∀ c' V, H.vote k r.term c' V → c' = c := by
    intro c' V h
    obtain ⟨h1, h2⟩ := s.me.vts _ _ _ h
    obtain ⟨h3, h4⟩ := h2 rfl
    rcases hv with hv | hv
    · rw [hv] at h3; exact absurd h3.symm h4
    · rw [← h3, hv]
  have hok : (H.addVote k r.term c f).Ok := s.h.addVote s.me.own hu fun t i n e' ha hn ht he => (s.me.acks t i n e' ha hn he).2
  have hle := Le.addVote H k r.term c f
  obtain ⟨a1, a2, a3, a4, a5, a6, a7, a8, a9, a10, a11, a12, a13, a14, a15, a16, a17, a18, a19, a20, a21⟩ := s.me
  refine s.move (Grow.addVote H k r.term c f) hok ⟨a1, a2, a3, a4, a5, a6, a7, a8, a9, a10, a11.mono hle, a12, a13.mono hle (Int.le_refl _), fun t i n e ha hn he => ?_, fun T c' V hv' => ?_, a16, a17, a18, fun hr => ?_, fun hr => ?_, a21⟩ (fun m h => .inl h) s.size ⟨s.bd.1, Int.le_refl _, s.nn, s.bd.2.2.2.1, s.bd.2.2.2.2.1, hcb⟩
  · obtain ⟨h1, h2⟩ := a14 t i n e ha hn he
    refine ⟨h1, ?_⟩
    rcases h2 with h2 | h2
    · exact .inl h2
    · exact .inr (h2.mono hle (Int.le_refl _))
  · rcases hv' with hv' | ⟨_, hT, rfl, _⟩
    · have h1 := a15 T c' V hv'
      refine ⟨h1.1, fun hT => ?_⟩
      have hT' : T = r.term := hT
      subst hT'
      have := hu c' V hv'
      exact ⟨this.symm, by rw [this]; exact hc⟩
    · exact ⟨by show T ≤ r.term; omega, fun _ => ⟨rfl, hc⟩⟩
  · obtain ⟨h1, h2, h3, h4⟩ := a19 hr
    refine ⟨h1, h2, h3, fun p b1 b2 b3 => ?_⟩
    obtain ⟨V, h5, h6⟩ := h4 p b1 b2 b3
    exact ⟨V, .inl h5, h6⟩
  · obtain ⟨e, h1, h2, h3, h4, h5⟩ := a20 hr
    exact ⟨e, h1, h2, h3, h4, fun i x hi hx hk => (h5 i x hi hx hk).mono hle (List.prefix_refl _) (by have := (List.getElem?_eq_some_iff.1 hx).1; omega) (Nat.le_refl _)⟩

/-- it stands -/
theorem voted_stand {r : RaftM} {p : Int} (hp0 : 1 ≤ p) (hp1 : p ≤ 5) (h : r.stand.voted p = true) (hi0 : 1 ≤ r.id) (hi1 : r.id ≤ 5) : p = r.id := by
  unfold RaftM.voted RaftM.stand at h
  simp only [List.getElem?_set, List.length_replicate] at h
  by_cases he : r.id.toNat = p.toNat
  · omega
  · rw [if_neg he, List.getElem?_replicate, if_pos (by omega)] at h
    cases h
theorem Sys.stand (s : Sys z rs fs sent H0 k H r f) : ∃ H', Sys (z + 1) rs fs sent H0 k H' r.stand f := by
  have hid := s.me.id
  have hk0 := s.me.k0
  have hk1 := s.me.k1
  have hc0 : H.cand k (r.term + 1) = none := by
    cases h : H.cand k (r.term + 1) with
    | none => rfl
    | some B => have := s.me.cnd _ _ h; omega
  have ht0 := s.me.t0
  let H1 := H.addCand k (r.term + 1) f
  have hle1 : Le H H1 := Le.addCand H k (r.term + 1) f hc0
  have hle2 : Le H1 (H1.addVote k (r.term + 1) k f) := Le.addVote H1 k (r.term + 1) k f
  have hle := hle1.trans hle2
  have g1 : Grow k H H1 := ⟨hle1, fun _ _ h _ => h, fun _ _ _ _ h => h, fun _ _ _ _ _ h => h, fun c T B hc h => by
    have h' : (if c = k ∧ T = r.term + 1 then some f else H.cand c T) = some B := h
    rwa [if_neg (by rintro ⟨rfl, _⟩; exact hc rfl)] at h'⟩
  have hok1 : H1.Ok := s.h.addCand k (r.term + 1) f
  have hok2 : (H1.addVote k (r.term + 1) k f).Ok := hok1.addVote (s.me.own.mono hle1) (fun c V h => by have := (s.me.vts _ _ _ h).1; omega) fun t i n e' ha hn ht he => by
    rcases (s.me.acks t i n e' ha hn he).2 with h2 | h2
    · exact .inl h2
    · exact .inr (h2.mono hle1 (by omega))
  obtain ⟨a1, a2, a3, a4, a5, a6, a7, a8, a9, a10, a11, a12, a13, a14, a15, a16, a17, a18, a19, a20, a21⟩ := s.me
  refine ⟨H1.addVote k (r.term + 1) k f, s.move (g1.trans (Grow.addVote H1 k (r.term + 1) k f)) hok2 ⟨a1, a2, a3, by show 0 ≤ r.term + 1; omega, a5, a6, a7, a8, a9, a10, a11.mono hle, fun x hx => ?_, a13.mono hle (by show r.term ≤ r.term + 1; omega), fun t i n e ha hn he => ?_, fun T c' V hv' => ?_, fun T B hc => ?_, fun T e he hl => ?_, .inr (.inl rfl), fun hr => ?_, fun hr => absurd (show (2 : Int) = 3 from hr) (by decide), fun hr => absurd (show (2 : Int) = 3 from hr) (by decide)⟩ (fun m h => .inl h) (fun T e he => by have := s.size T e he; omega) ⟨by have := s.bd.1; show r.term + 1 ≤ z + 1; omega, Int.le_refl _, by have := s.nn; show (0 : Int) ≤ z + 1; omega, (s.bd.mono (by omega)).2.2.2.1, s.bd.2.2.2.2.1, by show 0 ≤ r.id; omega, by show r.id ≤ 5; omega⟩⟩
  · have := a12 x hx; show x.term ≤ r.term + 1; omega
  · obtain ⟨h1, h2⟩ := a14 t i n e ha hn he
    refine ⟨by show t ≤ r.term + 1; omega, ?_⟩
    rcases h2 with h2 | h2
    · exact .inl h2
    · exact .inr (h2.mono hle (by show r.term ≤ r.term + 1; omega))
  · rcases hv' with hv' | ⟨_, hT, rfl, _⟩
    · have := (a15 T c' V hv').1
      exact ⟨by show T ≤ r.term + 1; omega, fun h => by have : T = r.term + 1 := h; omega⟩
    · exact ⟨by show T ≤ r.term + 1; omega, fun _ => ⟨hid, by omega⟩⟩
  · have hc' : (if k = k ∧ T = r.term + 1 then some f else H.cand k T) = some B := hc
    show T ≤ r.term + 1
    by_cases hT : T = r.term + 1
    · omega
    · rw [if_neg (by rintro ⟨_, h⟩; exact hT h)] at hc'
      have := a16 T B hc'; omega
  · have := (a17 T e he hl).1
    exact ⟨by show T ≤ r.term + 1; omega, fun h => by have : T = r.term + 1 := h; omega⟩
  · refine ⟨?_, fun x hx => ?_, by show 0 < r.term + 1; omega, fun p h1 h2 h3 => ?_⟩
    · show (if k = k ∧ r.term + 1 = r.term + 1 then some f else H.cand k (r.term + 1)) = some f
      rw [if_pos ⟨rfl, rfl⟩]
    · have := a12 x hx; show x.term < r.term + 1; omega
    · have hp := voted_stand h2 h3 h1 (by omega) (by omega)
      rw [hp, hid]
      exact ⟨f, .inr ⟨rfl, rfl, rfl, rfl⟩, .inr ⟨rfl, Nat.le_refl _⟩⟩
end
end Go.Proofs.Ytibkmhacpodceaa

/- Plain law: a leader's moves: it is elected, lays an entry, marks, settles, sends. Nothing of memory. -/
namespace Go.Proofs.Ytibkmhacpodceaa
section
variable {z z' : Int} {rs : Int → RaftM} {fs : Int → List Ent} {sent : List Msg} {H0 : Hist} {k : Int} {H H' : Hist} {r r' : RaftM} {f f' : List Ent}

theorem Sys.len (s : Sys z rs fs sent H0 k H r f) : (f.length : Int) ≤ z ∨ f = [] := by
  rcases Nat.eq_zero_or_pos f.length with h | h
  · exact .inr (List.eq_nil_of_length_eq_zero h)
  · obtain ⟨x, x1, x2, _⟩ := lastT_mem h
    obtain ⟨e, h1, _, h3⟩ := s.me.own _ _ x2
    have := s.size _ _ h1
    have := h3.length_le
    rw [List.length_take] at this
    left; omega
theorem Sys.lz (s : Sys z rs fs sent H0 k H r f) : (f.length : Int) ≤ z := by
  rcases s.len with h | h
  · exact h
  · rw [h]; exact s.nn
theorem lastT_bd {X : List Ent} {T : Int} (h0 : ∀ x, x ∈ X → 0 ≤ x.term) (h : ∀ x, x ∈ X → x.term ≤ T) (hT : 0 ≤ T) : 0 ≤ lastT X ∧ lastT X ≤ T := by
  rcases Nat.eq_zero_or_pos X.length with h1 | h1
  · rw [List.eq_nil_of_length_eq_zero h1]; exact ⟨Int.le_refl _, hT⟩
  · obtain ⟨x, x1, _, x3⟩ := lastT_mem h1
    rw [x3]; exact ⟨h0 x x1, h x x1⟩
theorem NodeOk.pos (hH : H.Ok) (n : NodeOk H k r f) : ∀ x, x ∈ f → 0 < x.term := by
  intro x hx
  obtain ⟨j, hj⟩ := List.getElem?_of_mem hx
  obtain ⟨e, h1, _⟩ := n.own j x hj
  exact hH.pos _ _ h1
theorem Sys.lastT_ (s : Sys z rs fs sent H0 k H r f) (i : Nat) : 0 ≤ lastT (f.take i) ∧ lastT (f.take i) ≤ z := by
  have := s.bd.1
  exact lastT_bd (fun x hx => by have := s.me.pos s.h x (List.mem_of_mem_take hx); omega) (fun x hx => by have := s.me.top x (List.mem_of_mem_take hx); omega) s.nn
theorem Sys.mbp (s : Sys z rs fs sent H0 k H r f) {kind to i lt : Int} {b : Bool} (hk : 1 ≤ kind ∧ kind ≤ 5) (ht : 1 ≤ to ∧ to ≤ 5) (hi : 0 ≤ i ∧ i ≤ z) (hl : 0 ≤ lt ∧ lt ≤ z) : MB z { kind := kind, group := r.group, from_ := r.id, to_ := to, term := r.term, index := i, logTerm := lt, ok := b } :=
  ⟨hk, ht, ⟨s.me.t0, s.bd.1⟩, hi, hl, ⟨Int.le_refl _, s.nn⟩, by simp, fun x hx => by simp at hx, by simp, by simp⟩
theorem NodeOk.majority (n : NodeOk H k r f) {Q : Int → Bool} (h : r.majority Q = true) : maj (cfg f) Q := by
  unfold RaftM.majority at h
  rw [n.members] at h
  unfold maj
  exact of_decide_eq_true h
theorem mem_nodes (hH : H.Ok) {X : List Ent} (hX : Owned H X) {v : Int} (h : v ∈ cfg X) : 1 ≤ v ∧ v ≤ 5 := by
  have := (members_cfg hH hX).subset h
  simp [nodes5] at this; omega

/-- elected -/
def RaftM.lead0 (r : RaftM) (n : Int) : RaftM := { r with role := 3, leader := r.id, others := List.replicate 6 (n, 0) }
theorem Sys.lead0 (s : Sys z rs fs sent H0 k H r f) (hr : r.role = 2) (hm : r.majority r.voted = true) : ∃ H', Sys z rs fs sent H0 k H' (r.lead0 (r.log.last.1 + 1)) f := by
  have hmaj := s.me.majority hm
  have hlast := s.me.last1 s.h
  obtain ⟨a1, a2, a3, a4, a5, a6, a7, a8, a9, a10, a11, a12, a13, a14, a15, a16, a17, a18, a19, a20, a21⟩ := s.me
  obtain ⟨b1, b2, b3, b4⟩ := a19 hr
  have hv : ∀ v, r.voted v = true → v ∈ cfg f → ∃ V, H.vote v r.term k V ∧ NewerL f V := fun v h1 h2 => by
    obtain ⟨h3, h4⟩ := mem_nodes s.h a11 h2
    exact b4 v h1 h3 h4
  have hn : H.el r.term = none := by
    cases he : H.el r.term with
    | none => rfl
    | some e =>
      have hfull := s.h.newBase a11 b2 hmaj (fun v h1 h2 => by
        obtain ⟨V, h3, h4⟩ := hv v h1 h2
        exact ⟨V, h3, h4, s.h.vp _ _ _ _ h3⟩)
      have := s.h.oneBase a11 b2 hmaj (fun v h1 h2 => by obtain ⟨V, h3, _⟩ := hv v h1 h2; exact ⟨V, h3⟩) hfull he
      exact absurd hr ((a17 _ e he this).2 rfl)
  have hle := Le.addEl H r.term k f hn
  refine ⟨H.addEl r.term k f, s.move ⟨hle, fun T e' he' hl => ?_, fun _ _ _ _ h => h, fun _ _ _ _ _ h => h, fun _ _ _ _ h => h⟩ (s.h.addEl a11 b2 b3 hn hmaj hv) ⟨a1, a2, a3, a4, a5, a6, a7, a8, a9, a10, a11.mono hle, a12, a13.mono hle (Int.le_refl _), fun t i n e ha hn' he => ?_, a15, a16, fun T e he hl => ?_, .inr (.inr rfl), fun h => absurd (show (3 : Int) = 2 from h) (by decide), fun _ => ?_, fun _ e he => by obtain rfl := Option.some.inj (addEl_eq.symm.trans (show (H.addEl r.term k f).el r.term = some e from he)); exact .inl a7⟩ (fun m h => .inl h) (fun T e he => ?_) ⟨s.bd.1, s.bd.2.1, s.bd.2.2.1, fun q => ?_, s.bd.2.2.2.2⟩⟩
  · rcases addEl_cases he' with ⟨_, rfl⟩ | ⟨_, h⟩
    · exact absurd rfl hl
    · exact h
  · obtain ⟨e2, k1, _⟩ := s.h.ack _ _ _ ha
    rw [addEl_ne (by rintro rfl; rw [hn] at k1; cases k1)] at he
    obtain ⟨h1, h2⟩ := a14 t i n e ha hn' he
    refine ⟨h1, ?_⟩
    rcases h2 with h2 | h2
    · exact .inl h2
    · exact .inr (h2.mono hle (Int.le_refl _))
  · refine ⟨?_, fun _ => (by decide : (3 : Int) ≠ 2)⟩
    rcases addEl_cases he with ⟨rfl, _⟩ | ⟨_, h⟩
    · exact Int.le_refl _
    · exact (a17 T e h hl).1
  · refine ⟨⟨k, f, f⟩, addEl_eq, rfl, rfl, fun p h1 h2 => ?_, fun j x hj hx _ => ?_⟩
    · have hp : p.toNat < 6 := by omega
      simp only [RaftM.lead0, RaftM.next, RaftM.match_, List.getElem?_replicate, if_pos hp, Option.getD_some, hlast]
      exact ⟨by omega, Int.le_refl _, Int.le_refl _, .inl trivial⟩
    · have := (List.getElem?_eq_some_iff.1 hx).1
      simp only at hj; omega
  · rcases addEl_cases he with ⟨rfl, rfl⟩ | ⟨_, h⟩
    · exact s.lz
    · exact s.size T e h
  · have hz := s.lz
    have hz0 := s.nn
    show 0 ≤ (((List.replicate 6 ((r.log.last.1 + 1, 0) : Int × Int))[q.toNat]?).getD (0, 0)).1 ∧ (((List.replicate 6 ((r.log.last.1 + 1, 0) : Int × Int))[q.toNat]?).getD (0, 0)).1 ≤ z + 1 ∧ 0 ≤ (((List.replicate 6 ((r.log.last.1 + 1, 0) : Int × Int))[q.toNat]?).getD (0, 0)).2 ∧ (((List.replicate 6 ((r.log.last.1 + 1, 0) : Int × Int))[q.toNat]?).getD (0, 0)).2 ≤ z
    rw [List.getElem?_replicate]
    split
    · rw [Option.getD_some]; dsimp only; omega
    · rw [Option.getD_none]; dsimp only; omega

/-- an entry more -/
theorem Sys.put (s : Sys z rs fs sent H0 k H r f) (hr : r.role = 3) {x : Ent} (hx : x.term = r.term) (hi : x.index = f.length + 1) (hm : x.kind = 3 → membersB x.data = true) (hE : EntOk x)
    (hk : x.kind = 3 → MemBehind H r.term f f.length (r.log.commit.toNat + 1) x.data) :
    ∃ H', Sys (z + 1) rs fs sent H0 k H' { r with log := { r.log with ents := r.log.ents ++ [x] } } (f ++ [x]) := by
  have hsil := s.me.sil
  obtain ⟨a1, a2, a3, a4, a5, a6, a7, a8, a9, a10, a11, a12, a13, a14, a15, a16, a17, a18, a19, a20, a21⟩ := s.me
  obtain ⟨e, b1, b2, b3, b4, b5⟩ := a20 hr
  have hle := Le.lay H r.term x
  have hci : r.log.commit.toNat ≤ f.length := by omega
  refine ⟨H.lay r.term x, s.move ⟨hle, fun T e' he' hl => ?_, fun _ _ _ _ h => h, fun _ _ _ _ _ h => h, fun _ _ _ _ h => h⟩ (s.h.lay b1 hx (by rw [b3]; exact hi) hm hE (fun h => by rw [b3]; obtain ⟨P, c1, c2, c3, c4⟩ := hk h; exact ⟨P, c1, c2, by omega, c4⟩)) ⟨a1, a2, a3, a4, a5, a6, ?_, ?_, ?_, ?_, ?_, fun y hy => ?_, ?_, fun t i n e' ha hn' he => ?_, a15, a16, fun T e' he hl => ?_, a18, fun h => ?_, fun _ => ?_, fun _ e' he' => ?_⟩ (fun m h => .inl h) (fun T e' he' => ?_) (s.bd.mono (by omega))⟩
  · obtain ⟨e0, h0, hc⟩ := lay_cases he'
    rcases hc with ⟨rfl, rfl⟩ | ⟨_, rfl⟩
    · rw [b1] at h0
      obtain rfl := Option.some.inj h0
      exact absurd b2 hl
    · exact h0
  · show r.log.commit ≤ (f ++ [x]).length
    rw [List.length_append]; simp only [List.length_singleton]; omega
  · show r.log.ents ++ [x] = (f ++ [x]).drop r.log.sI.toNat
    rw [List.drop_append_of_le_length hsil, a8]
  · show r.log.sT = lastT ((f ++ [x]).take r.log.sI.toNat)
    rw [List.take_append_of_le_length hsil]; exact a9
  · show r.log.sM = cfg ((f ++ [x]).take r.log.sI.toNat)
    rw [List.take_append_of_le_length hsil]; exact a10
  · intro j y hy
    by_cases hj : j < f.length
    · rw [List.getElem?_append_left hj] at hy
      obtain ⟨e', c1, c2, c3⟩ := a11.mono hle j y hy
      refine ⟨e', c1, c2, ?_⟩
      rw [List.take_append_of_le_length (by omega)]; exact c3
    · have hjl := (List.getElem?_eq_some_iff.1 hy).1
      have hje : j = f.length := by simp at hjl; omega
      subst hje
      rw [List.getElem?_append_right (Nat.le_refl _)] at hy
      simp at hy
      subst hy
      rw [hx]
      refine ⟨_, lay_eq b1, ?_, ?_⟩
      · have := (s.h.pre _ _ b1).length_le
        show e.base.length ≤ f.length
        rw [b3] at this; exact this
      · show (f ++ [x]).take (f.length + 1) <+: e.cur ++ [x]
        rw [b3]; exact List.take_prefix _ _
  · rcases List.mem_append.1 hy with hy | hy
    · exact a12 y hy
    · rw [List.mem_singleton] at hy; subst hy; show y.term ≤ r.term; omega
  · show Committed _ r.term ((f ++ [x]).take r.log.commit.toNat)
    rw [List.take_append_of_le_length hci]
    exact a13.mono hle (Int.le_refl _)
  · obtain ⟨e0, c1, c2⟩ := lay_take s.h ha hn' he
    rw [c2]
    obtain ⟨h1, h2⟩ := a14 t i n e0 ha hn' c1
    refine ⟨h1, ?_⟩
    rcases h2 with h2 | h2
    · exact .inl (h2.trans (List.prefix_append _ _))
    · exact .inr (h2.mono hle (Int.le_refl _))
  · obtain ⟨e0, h0, hc⟩ := lay_cases he
    have : e0.ldr = k := by
      rcases hc with ⟨rfl, rfl⟩ | ⟨_, rfl⟩
      · exact hl
      · exact hl
    exact a17 T e0 h0 this
  · have : r.role = 2 := h
    omega
  · refine ⟨_, lay_eq b1, b2, by show e.cur ++ [x] = f ++ [x]; rw [b3], fun p h1 h2 => ?_, fun j y hj hy hky => ?_⟩
    · obtain ⟨q1, q2, q3, q4⟩ := b4 p h1 h2
      refine ⟨q1, ?_, q3, q4⟩
      show r.next p ≤ ((f ++ [x]).length : Int) + 1
      rw [List.length_append]; simp only [List.length_singleton]; omega
    · by_cases hjl : j < f.length
      · rw [List.getElem?_append_left hjl] at hy
        exact (b5 j y hj hy hky).mono hle (List.prefix_append _ _) (by omega) (Nat.le_refl _)
      · have hjl' := (List.getElem?_eq_some_iff.1 hy).1
        have hje : j = f.length := by simp at hjl'; omega
        subst hje
        rw [List.getElem?_append_right (Nat.le_refl _)] at hy
        simp at hy
        subst hy
        exact (hk hky).mono hle (List.prefix_append _ _) (Nat.le_refl _) (Nat.le_refl _)
  · have he2 : (H.lay r.term x).el r.term = some e' := he'
    rw [lay_eq b1] at he2
    obtain rfl := Option.some.inj he2
    rcases a21 hr e b1 with h | h
    · exact .inl h
    · right
      show H.com r.term ((f ++ [x]).take r.log.commit.toNat)
      rw [List.take_append_of_le_length hci]; exact h
  · obtain ⟨e0, h0, hc⟩ := lay_cases he'
    have := s.size _ _ h0
    rcases hc with ⟨rfl, rfl⟩ | ⟨_, rfl⟩
    · show ((e0.cur ++ [x]).length : Int) ≤ z + 1
      rw [List.length_append]; simp only [List.length_singleton]; omega
    · omega

theorem add_cases (L : LogM) (t kind : Int) (d : List Int) : (L.add t kind d = (0, 1, L)) ∨
    (rightB ⟨L.last.1 + 1, t, kind, d⟩ = true ∧ L.add t kind d = (L.last.1 + 1, 0, { L with ents := L.ents ++ [⟨L.last.1 + 1, t, kind, d⟩] })) := by
  unfold LogM.add
  by_cases h : followB (L.last.1 + 1) L.last.2 [⟨L.last.1 + 1, t, kind, d⟩] = true
  · right
    rw [if_pos h]
    refine ⟨?_, rfl⟩
    unfold followB at h
    simp only [Bool.and_eq_true] at h
    exact h.1.1.1
  · left
    rw [if_neg h]

theorem Sys.add (s : Sys z rs fs sent H0 k H r f) (hr : r.role = 3) {kind : Int} {d : List Int} (hd : d.length ≤ 100) (hk : kind = 3 → MemBehind H r.term f f.length (r.log.commit.toNat + 1) d) :
    ∃ H' f', Sys (z + 1) rs fs sent H0 k H' { r with log := (r.log.add r.term kind d).2.2 } f' := by
  rcases add_cases r.log r.term kind d with h | ⟨h1, h2⟩
  · rw [h]; exact ⟨H, f, s.mono (by omega)⟩
  · rw [h2]
    have hl := s.me.last1 s.h
    have hmm : kind = 3 → membersB d = true := by
      intro h3
      subst h3
      unfold rightB at h1
      simp only [Bool.and_eq_true] at h1
      have := h1.2
      rw [if_neg (by decide), if_neg (by decide), if_pos trivial] at this
      simp only [Bool.and_eq_true] at this
      exact this.2
    have hkk : 1 ≤ kind ∧ kind ≤ 3 := by
      unfold rightB at h1
      simp only [Bool.and_eq_true] at h1
      have := h1.2
      by_cases k1 : kind = 1
      · omega
      · by_cases k2 : kind = 2
        · omega
        · by_cases k3 : kind = 3
          · omega
          · rw [if_neg k1, if_neg k2, if_neg k3] at this; cases this
    obtain ⟨H', h⟩ := s.put hr (x := ⟨r.log.last.1 + 1, r.term, kind, d⟩) rfl (by show r.log.last.1 + 1 = _; rw [hl]) hmm ⟨hkk.1, hkk.2, hd⟩ hk
    exact ⟨H', _, h⟩

/-! it acks -/
theorem Sys.ack (s : Sys z rs fs sent H0 k H r f) {e : El} (he : H.el r.term = some e) {i : Nat} (hi : i ≤ e.cur.length) (hp : e.cur.take i <+: f) : Sys z rs fs sent H0 k (H.addAck k r.term i) r f := by
  have hle := Le.addAck H k r.term i
  obtain ⟨a1, a2, a3, a4, a5, a6, a7, a8, a9, a10, a11, a12, a13, a14, a15, a16, a17, a18, a19, a20, a21⟩ := s.me
  refine s.move ⟨hle, fun _ _ h _ => h, fun v t j hv h => ?_, fun _ _ _ _ _ h => h, fun _ _ _ _ h => h⟩ (s.h.addAck he hi fun T c V hv => (a15 T c V hv).1)
    ⟨a1, a2, a3, a4, a5, a6, a7, a8, a9, a10, a11.mono hle, a12, a13.mono hle (Int.le_refl _), fun t j n e' ha hn he' => ?_, a15, a16, a17, a18, a19, fun h => ?_, a21⟩ (fun m h => .inl h) s.size s.bd
  · rcases h with h | ⟨h, _⟩
    · exact h
    · exact absurd h hv
  · rcases ha with ha | ⟨_, rfl, rfl⟩
    · obtain ⟨h1, h2⟩ := a14 t j n e' ha hn he'
      refine ⟨h1, ?_⟩
      rcases h2 with h2 | h2
      · exact .inl h2
      · exact .inr (h2.mono hle (Int.le_refl _))
    · have he2 : H.el r.term = some e' := he'
      rw [he] at he2
      obtain rfl := Option.some.inj he2
      exact ⟨Int.le_refl _, .inl ((take_take_pre _ hn).trans hp)⟩
  · obtain ⟨e', h1, h2, h3, h4, h5⟩ := a20 h
    refine ⟨e', h1, h2, h3, fun p b1 b2 => ?_, fun j x hj hx hk => (h5 j x hj hx hk).mono hle (List.prefix_refl _) (by have := (List.getElem?_eq_some_iff.1 hx).1; omega) (Nat.le_refl _)⟩
    obtain ⟨q1, q2, q3, q4⟩ := h4 p b1 b2
    refine ⟨q1, q2, q3, ?_⟩
    rcases q4 with q4 | ⟨j, q4, q5⟩
    · exact .inl q4
    · exact .inr ⟨j, .inl q4, q5⟩

theorem getD_set {l : List (Int × Int)} {i j : Nat} {x : Int × Int} : ((l.set i x)[j]?).getD (0, 0) = if i = j ∧ i < l.length then x else (l[j]?).getD (0, 0) := by
  rw [List.getElem?_set]
  by_cases hij : i = j
  · subst hij
    by_cases hl : i < l.length
    · simp [hl]
    · simp [hl]
  · simp [hij]
theorem setOther_next (r : RaftM) (p q n m : Int) : (r.setOther p n m).next q = if p.toNat = q.toNat ∧ p.toNat < r.others.length then n else r.next q := by
  unfold RaftM.next RaftM.setOther
  rw [getD_set]
  by_cases h : p.toNat = q.toNat ∧ p.toNat < r.others.length
  · rw [if_pos h, if_pos h]
  · rw [if_neg h, if_neg h]
theorem setOther_match (r : RaftM) (p q n m : Int) : (r.setOther p n m).match_ q = if p.toNat = q.toNat ∧ p.toNat < r.others.length then m else r.match_ q := by
  unfold RaftM.match_ RaftM.setOther
  rw [getD_set]
  by_cases h : p.toNat = q.toNat ∧ p.toNat < r.others.length
  · rw [if_pos h, if_pos h]
  · rw [if_neg h, if_neg h]

/-- what a leader knows of p -/
theorem Sys.other (s : Sys z rs fs sent H0 k H r f) {p nx m : Int} (hn0 : 1 ≤ nx) (hn1 : nx ≤ f.length + 1) (hm0 : 0 ≤ m) (hm : r.role = 3 → 1 ≤ p → p ≤ 5 → m = 0 ∨ ∃ i : Nat, H.ack p r.term i ∧ m ≤ i) (hmz : m ≤ z) : Sys z rs fs sent H0 k H (r.setOther p nx m) f := by
  obtain ⟨a1, a2, a3, a4, a5, a6, a7, a8, a9, a10, a11, a12, a13, a14, a15, a16, a17, a18, a19, a20, a21⟩ := s.me
  refine s.stay ⟨a1, a2, a3, a4, a5, a6, a7, a8, a9, a10, a11, a12, a13, a14, a15, a16, a17, a18, a19, fun h => ?_, a21⟩ (fun m h => .inl h) ⟨s.bd.1, s.bd.2.1, s.bd.2.2.1, fun q => ?_, s.bd.2.2.2.2⟩
  rotate_left
  · have hz := s.lz
    obtain ⟨c1, c2, c3, c4⟩ := s.bd.2.2.2.1 q
    rw [setOther_next, setOther_match]
    split
    · exact ⟨by omega, by omega, hm0, hmz⟩
    · exact ⟨c1, c2, c3, c4⟩
  obtain ⟨e', h1, h2, h3, h4, h5⟩ := a20 h
  refine ⟨e', h1, h2, h3, fun q b1 b2 => ?_, h5⟩
  rw [setOther_next, setOther_match]
  by_cases hq : p.toNat = q.toNat ∧ p.toNat < r.others.length
  · rw [if_pos hq, if_pos hq]
    have : p = q := by omega
    subst this
    exact ⟨hn0, hn1, hm0, hm h b1 b2⟩
  · rw [if_neg hq, if_neg hq]
    exact h4 q b1 b2
theorem mark_eq (r : RaftM) : r.mark = r.setOther r.id (r.next r.id) r.log.last.1 := rfl
theorem Sys.mark (s : Sys z rs fs sent H0 k H r f) (hr : r.role = 3) : ∃ H', Sys z rs fs sent H0 k H' r.mark f := by
  have hl := s.me.last1 s.h
  have hid := s.me.id
  obtain ⟨e, h1, h2, h3, h4, h5⟩ := s.me.c3 hr
  have s' := s.ack h1 (i := f.length) (by rw [h3]; exact Nat.le_refl _) (by rw [h3]; exact List.take_prefix _ _)
  obtain ⟨e', k1, k2, k3, k4, k5⟩ := s'.me.c3 hr
  rw [mark_eq]
  obtain ⟨q1, q2, q3, q4⟩ := k4 r.id (by rw [hid]; exact s.me.k0) (by rw [hid]; exact s.me.k1)
  refine ⟨_, s'.other q1 q2 (by rw [hl]; omega) (fun _ _ _ => .inr ⟨f.length, ?_, by rw [hl]; exact Int.le_refl _⟩) (by rw [hl]; exact s.lz)⟩
  right
  exact ⟨hid, rfl, rfl⟩

theorem settled_spec (r : RaftM) : ∀ (m : Nat) (n c : Int), r.settled m n = some c → r.log.commit < c ∧ c ≤ n ∧ (r.log.termAt c).getD 0 = r.term ∧ r.majority (fun p => decide (c ≤ r.match_ p)) = true
  | 0, n, c, h => by cases h
  | m + 1, n, c, h => by
    unfold RaftM.settled at h
    by_cases h1 : n ≤ r.log.commit
    · rw [if_pos h1] at h; cases h
    · rw [if_neg h1] at h
      by_cases h2 : (r.log.termAt n).getD 0 = r.term ∧ r.majority (fun p => decide (n ≤ r.match_ p)) = true
      · rw [if_pos h2] at h
        obtain rfl := Option.some.inj h
        exact ⟨by omega, by omega, h2.1, h2.2⟩
      · rw [if_neg h2] at h
        obtain ⟨a, b, c⟩ := settled_spec r m (n - 1) c h
        exact ⟨a, by omega, c⟩

theorem Sys.settle (s : Sys z rs fs sent H0 k H r f) (hr : r.role = 3) {c : Int} (h1 : r.log.commit < c) (h2 : c ≤ r.log.last.1) (h3 : (r.log.termAt c).getD 0 = r.term) (h4 : r.majority (fun p => decide (c ≤ r.match_ p)) = true) :
    ∃ H', Sys z rs fs sent H0 k H' { r with log := r.log.settle c } f := by
  have hl := s.me.last1 s.h
  have hmaj := s.me.majority h4
  have hset : r.log.settle c = { r.log with commit := c } := by
    unfold LogM.settle
    rw [if_neg (by omega), Int.max_eq_right (by omega)]
  rw [hset]
  have hterm := s.me.termAt (i := c) (by have := s.me.si1; omega) (by omega)
  rw [hterm, Option.getD_some] at h3
  obtain ⟨a1, a2, a3, a4, a5, a6, a7, a8, a9, a10, a11, a12, a13, a14, a15, a16, a17, a18, a19, a20, a21⟩ := s.me
  obtain ⟨e, b1, b2, b3, b4, b5⟩ := a20 hr
  obtain ⟨x, hx⟩ : ∃ x, f[(c - 1).toNat]? = some x := ⟨_, List.getElem?_eq_getElem (by omega)⟩
  have hxt := lastT_take hx
  rw [show (c - 1).toNat + 1 = c.toNat by omega, h3] at hxt
  have hbase : e.base.length ≤ (c - 1).toNat := by
    refine Nat.not_lt.1 fun hlt => ?_
    have := (s.h.curTerm b1 (j := (c - 1).toNat) (x := x) (by rw [b3]; exact hx)).2 hlt
    omega
  have hPl : (f.take c.toNat).length = c.toNat := by rw [List.length_take]; omega
  have hok := s.h.addCom (t := r.term) (e := e) (F := f) (P := f.take c.toNat) b1 (List.take_prefix _ _) (by rw [b3]; exact List.prefix_refl _) (by rw [hPl]; omega) hmaj
    (fun v hv hm => by
      obtain ⟨v0, v1⟩ := mem_nodes s.h a11 hm
      obtain ⟨_, _, _, q4⟩ := b4 v v0 v1
      have hv' := of_decide_eq_true hv
      rcases q4 with q4 | ⟨i, q4, q5⟩
      · omega
      · exact ⟨i, by rw [hPl]; omega, q4⟩)
    (fun j y hj hy hk => by
      obtain ⟨P, c1, c2, c3, c4⟩ := b5 j y hj hy hk
      exact ⟨P, c1, c2, by rw [hPl]; omega, c4⟩)
  have hle := Le.addCom H r.term (f.take c.toNat)
  refine ⟨_, s.move ⟨hle, fun _ _ h _ => h, fun _ _ _ _ h => h, fun _ _ _ _ _ h => h, fun _ _ _ _ h => h⟩ hok
    ⟨a1, a2, a3, a4, a5, by show r.log.sI ≤ c; omega, by show c ≤ f.length; omega, a8, a9, a10, a11.mono hle, a12, ?_, fun t j n e' ha hn he' => ?_, a15, a16, a17, a18, a19, fun h => ?_, fun _ _ _ => .inr (.inr ⟨rfl, rfl⟩)⟩ (fun m h => .inl h) s.size s.bd⟩
  · exact .inr ⟨r.term, f.take c.toNat, .inr ⟨rfl, rfl⟩, Int.le_refl _, List.prefix_refl _⟩
  · obtain ⟨h1, h2⟩ := a14 t j n e' ha hn he'
    refine ⟨h1, ?_⟩
    rcases h2 with h2 | h2
    · exact .inl h2
    · exact .inr (h2.mono hle (Int.le_refl _))
  · exact ⟨e, b1, b2, b3, b4, fun j y hj hy hk => (b5 j y hj hy hk).mono hle (List.prefix_refl _) (by have := (List.getElem?_eq_some_iff.1 hy).1; omega) (by show r.log.commit.toNat + 1 ≤ c.toNat + 1; omega)⟩

theorem Sys.leave (s : Sys z rs fs sent H0 k H r f) : Sys z rs fs sent H0 k H r.leave f := by
  unfold RaftM.leave
  split
  · exact s.stay (s.me.low rfl rfl rfl rfl rfl) (fun m h => .inl h) s.bd
  · exact s

theorem mark_role (r : RaftM) : r.mark.role = r.role := rfl
theorem Sys.commitM (s : Sys z rs fs sent H0 k H r f) (hr : r.role = 3) : ∃ H', Sys z rs fs sent H0 k H' r.commitM.2 f := by
  obtain ⟨H1, s1⟩ := s.mark hr
  have hl := s1.me.last1 s1.h
  unfold RaftM.commitM
  dsimp only
  cases h : r.mark.settled (r.mark.log.last.1 - r.mark.log.commit).toNat r.mark.log.last.1 with
  | none => exact ⟨H1, s1.leave⟩
  | some c =>
    obtain ⟨h1, h2, h3, h4⟩ := settled_spec _ _ _ _ h
    obtain ⟨H2, s2⟩ := s1.settle hr h1 h2 h3 h4
    exact ⟨H2, s2.leave⟩

theorem Sys.sendTo (s : Sys z rs fs sent H0 k H r f) (hr : r.role = 3) {p : Int} (hp0 : 1 ≤ p) (hp1 : p ≤ 5) : Sys z rs fs sent H0 k H (r.sendTo p) f := by
  obtain ⟨e, b1, b2, b3, b4, b5⟩ := s.me.c3 hr
  have hid := s.me.id
  have hk0 := s.me.k0
  have hk1 := s.me.k1
  have hs0 := s.me.si0
  have hs1 := s.me.si1
  have hc1 := s.me.c1
  have hsil := s.me.sil
  have q1 := (b4 p hp0 hp1).1
  have q2 := (b4 p hp0 hp1).2.1
  clear b4 b5
  unfold RaftM.sendTo
  split
  · rename_i hlt
    refine s.send ⟨by show 1 ≤ r.id; omega, by show r.id ≤ 5; omega, fun h => absurd (show (5 : Int) = 1 from h) (by decide), fun h => absurd (show (5 : Int) = 2 from h) (by decide), fun h => absurd (show (5 : Int) = 3 from h) (by decide), fun h => absurd (show (5 : Int) = 4 from h) (by decide), fun _ => ⟨e, b1, hs0, ?_, ?_, ?_, ?_⟩⟩ ⟨⟨by show (1 : Int) ≤ 5; omega, by show (5 : Int) ≤ 5; omega⟩, ⟨hp0, hp1⟩, ⟨s.me.t0, s.bd.1⟩, ⟨hs0, by have := s.lz; show r.log.sI ≤ z; omega⟩, ?_, ⟨Int.le_refl _, s.nn⟩, by simp, fun x hx => by simp at hx, ?_, s.bd.2.2.2.2.1⟩
    · rw [b3]; exact hsil
    · rw [b3]; exact s.me.sT
    · rw [b3]; exact s.me.sM
    · rw [b3]; exact s.me.com.pre (take_take_pre _ (by show r.log.sI.toNat ≤ _; omega))
    · show 0 ≤ r.log.sT ∧ r.log.sT ≤ z
      rw [s.me.sT]; exact s.lastT_ _
    · show r.log.sM.length ≤ 5
      rw [s.me.sM]
      have := (members_cfg s.h (s.me.own.pre (List.take_prefix r.log.sI.toNat f))).length_le
      exact this
  · rename_i hlt
    generalize hn : r.next p - 1 = n at hlt ⊢
    have hsl : r.log.slice (n + 1) 64 = (f.drop n.toNat).take (r.log.slice (n + 1) 64).length := by
      unfold LogM.slice
      by_cases hno : (r.log.entry (n + 1)).isNone = true ∨ (64 : Int) < 1
      · rw [if_pos hno]; rfl
      · rw [if_neg hno, s.me.ents, List.drop_drop]
        have : r.log.sI.toNat + (n + 1 - r.log.sI - 1).toNat = n.toNat := by omega
        rw [this, List.length_take]
        rw [List.take_eq_take_iff]
        rw [Nat.min_assoc, Nat.min_self]
    refine s.send ⟨by show 1 ≤ r.id; omega, by show r.id ≤ 5; omega, fun h => absurd (show (3 : Int) = 1 from h) (by decide), fun h => absurd (show (3 : Int) = 2 from h) (by decide), fun _ => ⟨e, b1, by show 0 ≤ n; omega, ?_, ?_, ?_, by show 0 ≤ r.log.commit; omega, ?_, ?_⟩, fun h => absurd (show (3 : Int) = 4 from h) (by decide), fun h => absurd (show (3 : Int) = 5 from h) (by decide)⟩ ⟨⟨by show (1 : Int) ≤ 3; omega, by show (3 : Int) ≤ 5; omega⟩, ⟨hp0, hp1⟩, ⟨s.me.t0, s.bd.1⟩, ⟨by show 0 ≤ n; omega, by have := s.lz; show n ≤ z; omega⟩, ?_, ⟨by show 0 ≤ r.log.commit; omega, by have := s.lz; show r.log.commit ≤ z; omega⟩, ?_, fun x hx => ?_, by simp, by simp⟩
    · rw [b3]
      show n.toNat + (r.log.slice (n + 1) 64).length ≤ f.length
      have := congrArg List.length hsl
      rw [List.length_take, List.length_drop] at this
      omega
    · rw [b3]; exact hsl
    · rw [b3]
      show (r.log.termAt n).getD 0 = _
      rw [s.me.termAt (by omega) (by omega)]; rfl
    · rw [b3]; exact hc1
    · rw [b3]; exact s.me.com
    · show 0 ≤ (r.log.termAt n).getD 0 ∧ (r.log.termAt n).getD 0 ≤ z
      rw [s.me.termAt (by omega) (by omega)]
      exact s.lastT_ _
    · show (r.log.slice (n + 1) 64).length ≤ 64
      unfold LogM.slice
      split
      · simp
      · rw [List.length_take]; omega
    · have hx' : x ∈ r.log.slice (n + 1) 64 := hx
      rw [hsl] at hx'
      have hxf := List.mem_of_mem_drop (List.mem_of_mem_take hx')
      obtain ⟨j, hj⟩ := List.getElem?_of_mem hxf
      have hjl := (List.getElem?_eq_some_iff.1 hj).1
      obtain ⟨c1, _, c3⟩ := s.h.index s.me.own hj
      have := s.me.pos s.h x hxf
      have := s.me.top x hxf
      have := s.bd.1
      have := s.lz
      exact ⟨by omega, by omega, by omega, by omega, c3⟩
theorem sendTo_role (r : RaftM) (p : Int) : (r.sendTo p).role = r.role := by unfold RaftM.sendTo; split <;> rfl
theorem sendTo_id (r : RaftM) (p : Int) : (r.sendTo p).id = r.id := by unfold RaftM.sendTo; split <;> rfl
theorem Sys.sendEach (s : Sys z rs fs sent H0 k H r f) (hr : r.role = 3) : ∀ (l : List Int), (∀ p, p ∈ l → 1 ≤ p ∧ p ≤ 5) → Sys z rs fs sent H0 k H (r.sendEach l) f := by
  intro l hl
  induction l generalizing r with
  | nil => exact s
  | cons p l ih =>
    unfold RaftM.sendEach
    split
    · exact ih (s.sendTo hr (hl p (by simp)).1 (hl p (by simp)).2) (by rw [sendTo_role]; exact hr) fun q hq => hl q (by simp [hq])
    · exact ih s hr fun q hq => hl q (by simp [hq])
theorem Sys.sendAll (s : Sys z rs fs sent H0 k H r f) : Sys z rs fs sent H0 k H r.sendAll f := by
  unfold RaftM.sendAll
  split
  · exact s
  · rename_i hr
    refine s.sendEach (Classical.not_not.1 hr) _ fun p hp => ?_
    rw [s.me.members] at hp
    exact mem_nodes s.h s.me.own hp

theorem Sys.lead (s : Sys z rs fs sent H0 k H r f) (hr : r.role = 2) (hm : r.majority r.voted = true) : ∃ H' f', Sys (z + 1) rs fs sent H0 k H' r.lead f' := by
  obtain ⟨H1, s1⟩ := s.lead0 hr hm
  obtain ⟨H2, f2, s2⟩ := s1.add (kind := 1) (d := []) rfl (by simp) fun h => absurd h (by decide)
  obtain ⟨H3, s3⟩ := s2.commitM rfl
  exact ⟨H3, f2, s3.sendAll⟩
theorem Sys.elected (s : Sys z rs fs sent H0 k H r f) (hr : r.role = 2) : ∃ H' f', Sys (z + 1) rs fs sent H0 k H' r.elected.2 f' := by
  unfold RaftM.elected
  split
  · exact s.lead hr (by assumption)
  · exact ⟨H, f, s.mono (by omega)⟩
theorem Sys.addM (s : Sys z rs fs sent H0 k H r f) (hr : r.role = 3) {kind : Int} {d : List Int} (hd : d.length ≤ 100) (hk : kind = 3 → MemBehind H r.term f f.length (r.log.commit.toNat + 1) d) : ∃ H' f', Sys (z + 1) rs fs sent H0 k H' (r.addM kind d).2.2 f' := by
  obtain ⟨H2, f2, s2⟩ := s.add hr hd hk
  unfold RaftM.addM
  dsimp only
  split
  · exact ⟨H2, f2, s2⟩
  · obtain ⟨H3, s3⟩ := s2.commitM hr
    exact ⟨H3, f2, s3.sendAll⟩
end
end Go.Proofs.Ytibkmhacpodceaa

/- Plain law: a node's other moves: it stands, votes, takes entries and states, hears what others have, compacts, changes members, lives again. Nothing of memory. -/
namespace Go.Proofs.Ytibkmhacpodceaa
section
variable {z z' : Int} {rs : Int → RaftM} {fs : Int → List Ent} {sent : List Msg} {H0 : Hist} {k : Int} {H H' : Hist} {r r' : RaftM} {f f' : List Ent}

theorem Sys.low (s : Sys z rs fs sent H0 k H r f) (h1 : r'.id = r.id) (h2 : r'.term = r.term) (h3 : r'.vote = r.vote) (h4 : r'.log = r.log) (h5 : r'.role = 1) (h6 : r'.out = r.out) (hb : Bd z r') : Sys z rs fs sent H0 k H r' f :=
  s.stay (s.me.low h1 h2 h3 h4 h5) (fun m h => .inl (by rw [← h6]; exact h)) hb

/-! want, Tick -/
theorem Sys.askEach (s : Sys z rs fs sent H0 k H r f) (hr : r.role = 2) {a b : Int} (ha : a = f.length) (hb : b = lastT f) : ∀ l : List Int, (∀ p, p ∈ l → 1 ≤ p ∧ p ≤ 5) → Sys z rs fs sent H0 k H (r.askEach a b l) f := by
  intro l hl
  induction l generalizing r with
  | nil => exact s
  | cons p l ih =>
    unfold RaftM.askEach
    split
    · have hid := s.me.id
      have hk0 := s.me.k0
      have hk1 := s.me.k1
      refine ih (s.send ⟨by show 1 ≤ r.id; omega, by show r.id ≤ 5; omega, fun _ => ⟨f, ?_, ha, hb⟩, fun h => absurd (show (1 : Int) = 2 from h) (by decide), fun h => absurd (show (1 : Int) = 3 from h) (by decide), fun h => absurd (show (1 : Int) = 4 from h) (by decide), fun h => absurd (show (1 : Int) = 5 from h) (by decide)⟩ (s.mbp (kind := 1) (i := a) (by omega) (hl p (by simp)) (by rw [ha]; exact ⟨by omega, s.lz⟩) (by rw [hb]; have := s.lastT_ f.length; rwa [List.take_of_length_le (Nat.le_refl _)] at this))) hr fun q hq => hl q (by simp [hq])
      show H.cand r.id r.term = some f
      rw [hid]; exact (s.me.c2 hr).1
    · exact ih s hr fun q hq => hl q (by simp [hq])

theorem Sys.want (s : Sys z rs fs sent H0 k H r f) : ∃ H' f', Sys (z + 2) rs fs sent H0 k H' r.want f' := by
  unfold RaftM.want
  split
  · exact ⟨H, f, s.mono (by omega)⟩
  · obtain ⟨H1, s1⟩ := s.stand
    split
    · obtain ⟨H2, f2, s2⟩ := s1.elected rfl
      exact ⟨H2, f2, s2.mono (by omega)⟩
    · exact ⟨H1, f, (s1.askEach rfl (s.me.last1 s.h) (s.me.last2 s.h) _ fun p hp => mem_nodes s.h s.me.own (by rw [← s.me.members]; exact hp)).mono (by omega)⟩

theorem Sys.tick (s : Sys z rs fs sent H0 k H r f) (w : Int) : ∃ H' f', Sys (z + 3) rs fs sent H0 k H' (r.tick w) f' := by
  unfold RaftM.tick
  split
  · exact ⟨H, f, s.sendAll.mono (by omega)⟩
  · have s1 : Sys (z + 1) rs fs sent H0 k H { r with elapsed := r.elapsed + 1 } f := (s.mono (z' := z + 1) (by omega)).stay (s.me.same rfl rfl rfl rfl rfl rfl rfl) (fun m h => .inl h) ⟨by have := s.bd.1; show r.term ≤ z + 1; omega, by have := s.bd.2.1; show 0 ≤ r.elapsed + 1; omega, by have := s.bd.2.2.1; show r.elapsed + 1 ≤ z + 1; omega, (s.bd.mono (by omega)).2.2.2⟩
    split
    · obtain ⟨H2, f2, s2⟩ := s1.want
      exact ⟨H2, f2, s2.mono (by omega)⟩
    · exact ⟨H, f, s1.mono (by omega)⟩

/-! asked, refuse, voted -/
theorem Sys.no (s : Sys z rs fs sent H0 k H r f) {kind to : Int} (hk : kind = 2 ∨ kind = 4) (hto : 1 ≤ to ∧ to ≤ 5) {i : Int} (hi : 0 ≤ i) (hiz : i ≤ z) : Sys z rs fs sent H0 k H (r.send { kind := kind, to_ := to, index := i }) f := by
  have hid := s.me.id
  have hk0 := s.me.k0
  have hk1 := s.me.k1
  refine s.send ⟨by show 1 ≤ r.id; omega, by show r.id ≤ 5; omega, fun h => ?_, fun _ h => ?_, fun h => ?_, fun _ => ⟨hi, fun h => ?_⟩, fun h => ?_⟩ (s.mbp (kind := kind) (i := i) (by omega) hto ⟨hi, hiz⟩ ⟨Int.le_refl _, s.nn⟩)
  · have : kind = 1 := h
    omega
  · exact absurd (show false = true from h) (by decide)
  · have : kind = 3 := h
    omega
  · exact absurd (show false = true from h) (by decide)
  · have : kind = 5 := h
    omega
theorem Sys.refuse (s : Sys z rs fs sent H0 k H r f) {m : Msg} (hm : MsgOk H m) : Sys z rs fs sent H0 k H (r.refuse m) f := by
  unfold RaftM.refuse
  split
  · exact s.no (.inl rfl) ⟨hm.f0, hm.f1⟩ (Int.le_refl _) s.nn
  · split
    · exact s.no (.inr rfl) ⟨hm.f0, hm.f1⟩ (Int.le_refl _) s.nn
    · exact s

theorem Sys.asked (s : Sys z rs fs sent H0 k H r f) {m : Msg} (hm : MsgOk H m) (hk : m.kind = 1) (ht : m.term = r.term) : ∃ H', Sys z rs fs sent H0 k H' (r.asked m) f := by
  have hid := s.me.id
  have hk0 := s.me.k0
  have hk1 := s.me.k1
  unfold RaftM.asked
  split
  · rename_i hc
    obtain ⟨h1, h2⟩ := hc
    obtain ⟨B, b1, b2, b3⟩ := hm.m1 hk
    have hf0 := hm.f0
    have hnew : NewerL B f := by
      unfold LogM.newer at h2
      rw [s.me.last s.h, b2, b3] at h2
      simp only [Bool.or_eq_true, Bool.and_eq_true, decide_eq_true_eq] at h2
      rcases h2 with h2 | ⟨h2, h3⟩
      · exact .inl h2
      · exact .inr ⟨h2.symm, by omega⟩
    have s1 := s.vote (c := m.from_) (by omega) ⟨by omega, hm.f1⟩ h1
    refine ⟨_, s1.send ⟨by show 1 ≤ r.id; omega, by show r.id ≤ 5; omega, fun h => absurd (show (2 : Int) = 1 from h) (by decide), fun _ _ => ⟨f, B, ?_, ?_, hnew⟩, fun h => absurd (show (2 : Int) = 3 from h) (by decide), fun h => absurd (show (2 : Int) = 4 from h) (by decide), fun h => absurd (show (2 : Int) = 5 from h) (by decide)⟩ (s1.mbp (kind := 2) (by omega) ⟨hm.f0, hm.f1⟩ ⟨Int.le_refl _, s.nn⟩ ⟨Int.le_refl _, s.nn⟩)⟩
    · exact .inr ⟨hid, rfl, rfl, rfl⟩
    · show H.cand m.from_ r.term = some B
      rw [← ht]; exact b1
  · exact ⟨H, s.no (.inl rfl) ⟨hm.f0, hm.f1⟩ (Int.le_refl _) s.nn⟩

theorem Sys.voted (s : Sys z rs fs sent H0 k H r f) {m : Msg} (hm : MsgOk H m) (hk : m.kind = 2) (ht : m.term = r.term) (hto : m.to_ = k) : 
    ∃ H' f', Sys (z + 1) rs fs sent H0 k H' (if m.ok = true ∧ r.role = 2 then ({ r with votes := r.votes.set m.from_.toNat true } : RaftM).elected.2 else r) f' := by
  split
  · rename_i hc
    obtain ⟨ho, hr⟩ := hc
    have hf0 := hm.f0
    obtain ⟨V, B, b1, b2, b3⟩ := hm.m2 hk ho
    rw [hto, ht] at b1 b2
    have s1 : Sys z rs fs sent H0 k H { r with votes := r.votes.set m.from_.toNat true } f := by
      obtain ⟨a1, a2, a3, a4, a5, a6, a7, a8, a9, a10, a11, a12, a13, a14, a15, a16, a17, a18, a19, a20, a21⟩ := s.me
      refine s.stay ⟨a1, a2, a3, a4, a5, a6, a7, a8, a9, a10, a11, a12, a13, a14, a15, a16, a17, a18, fun h => ?_, a20, a21⟩ (fun m h => .inl h) s.bd
      obtain ⟨c1, c2, c3, c4⟩ := a19 h
      refine ⟨c1, c2, c3, fun p h1 h2 h3 => ?_⟩
      have h1' : ((r.votes.set m.from_.toNat true)[p.toNat]?).getD false = true := h1
      rw [List.getElem?_set] at h1'
      by_cases hp : m.from_.toNat = p.toNat
      · have : p = m.from_ := by omega
        subst this
        rw [c1] at b2
        obtain rfl := Option.some.inj b2
        exact ⟨V, b1, b3⟩
      · rw [if_neg hp] at h1'
        exact c4 p h1' h2 h3
    exact s1.elected hr
  · exact ⟨H, f, s.mono (by omega)⟩

/-! Entries of a leader -/

/-- another log, taken of a leader -/
theorem Sys.adopt (s : Sys z rs fs sent H0 k H r f) {e : El} (he : H.el r.term = some e) {n : Nat} (hn : n ≤ e.cur.length) (hP : ∀ P, P <+: f → P <+: e.cur → P <+: e.cur.take n)
    {L : LogM} (h0 : 0 ≤ L.sI) (h1 : L.sI ≤ L.commit) (h2 : L.commit ≤ n) (h3 : L.ents = (e.cur.take n).drop L.sI.toNat) (h4 : L.sT = lastT (e.cur.take L.sI.toNat)) (h5 : L.sM = cfg (e.cur.take L.sI.toNat)) (h6 : Committed H r.term (e.cur.take L.commit.toNat))
    (hrole : r.role = 1) : Sys z rs fs sent H0 k H { r with log := L } (e.cur.take n) := by
  obtain ⟨a1, a2, a3, a4, a5, a6, a7, a8, a9, a10, a11, a12, a13, a14, a15, a16, a17, a18, a19, a20, a21⟩ := s.me
  have hl : (e.cur.take n).length = n := by rw [List.length_take]; omega
  have hs : (e.cur.take n).take L.sI.toNat = e.cur.take L.sI.toNat := by rw [List.take_take, Nat.min_eq_left (by omega)]
  have hc : (e.cur.take n).take L.commit.toNat = e.cur.take L.commit.toNat := by rw [List.take_take, Nat.min_eq_left (by omega)]
  refine s.stay ⟨a1, a2, a3, a4, h0, h1, by show L.commit ≤ ((e.cur.take n).length : Int); omega, h3, by show L.sT = _; rw [hs]; exact h4, by show L.sM = _; rw [hs]; exact h5, (s.h.ownCur he).pre (List.take_prefix _ _), fun x hx => ?_, by show Committed H r.term _; rw [hc]; exact h6, fun t i m e' ha hm he' => ?_,
    a15, a16, a17, a18, fun h => absurd (hrole.symm.trans (show r.role = 2 from h)) (by decide), fun h => absurd (hrole.symm.trans (show r.role = 3 from h)) (by decide), fun h => absurd (hrole.symm.trans (show r.role = 3 from h)) (by decide)⟩ (fun m h => .inl h) s.bd
  · obtain ⟨j, hj⟩ := List.getElem?_of_mem (List.mem_of_mem_take hx)
    exact (s.h.curTerm he hj).1
  · obtain ⟨c1, c2⟩ := a14 t i m e' ha hm he'
    refine ⟨c1, ?_⟩
    rcases c2 with c2 | c2
    · by_cases hcur : e'.cur.take m <+: e.cur
      · exact .inl (hP _ c2 hcur)
      · right
        have hlt : t < r.term := by
          rcases Int.lt_or_eq_of_le c1 with h | h
          · exact h
          · exfalso
            rw [h, he] at he'
            obtain rfl := Option.some.inj he'
            exact hcur (List.take_prefix _ _)
        exact ⟨r.term, e, hlt, Int.le_refl _, he, fun hb => hcur (hb.trans (s.h.pre _ _ he))⟩
    · exact .inr c2

theorem lay_spec (hH : H.Ok) (n : NodeOk H k r f) {cur : List Ent} (hcur : Owned H cur) : ∀ (d s : Nat), r.log.sI.toNat ≤ s → s + d ≤ cur.length → s ≤ f.length → f.take s = cur.take s → ∀ es, es = (cur.drop s).take d → ∀ L', r.log.lay es = some L' →
    (L' = r.log ∧ cur.take (s + d) <+: f) ∨
    ∃ j, s ≤ j ∧ j < s + d ∧ j ≤ f.length ∧ r.log.commit ≤ j ∧ f.take j = cur.take j ∧ (∀ x y, f[j]? = some x → cur[j]? = some y → x.term ≠ y.term) ∧ L' = { r.log with ents := (cur.take (s + d)).drop r.log.sI.toNat }
  | 0, s, hs, hd, hf, heq, es, hes, L', hL => by
    left
    rw [hes] at hL
    simp only [List.take_zero, LogM.lay, Option.some.injEq] at hL
    refine ⟨hL.symm, ?_⟩
    rw [Nat.add_zero, ← heq]
    exact List.take_prefix _ _
  | d + 1, s, hs, hd, hf, heq, es, hes, L', hL => by
    have hsI0 := n.si0
    have hc1 := n.c1
    obtain ⟨y, hy⟩ : ∃ y, cur[s]? = some y := ⟨_, List.getElem?_eq_getElem (by omega)⟩
    have hyi := (hH.index hcur hy).1
    have hes2 : es = y :: (cur.drop (s + 1)).take d := by
      rw [hes, List.drop_eq_getElem_cons (by omega), List.take_succ_cons]
      congr 1
      exact (List.getElem?_eq_some_iff.1 hy).2
    have hput : ∀ (L2 : LogM), L2 = { r.log with ents := r.log.ents.take (y.index - r.log.sI - 1).toNat ++ (y :: (cur.drop (s + 1)).take d) } → L2 = { r.log with ents := (cur.take (s + (d + 1))).drop r.log.sI.toNat } := by
      intro L2 h2
      rw [h2, ← hes2, hes, n.ents]
      congr 1
      have e1 : (y.index - r.log.sI - 1).toNat = s - r.log.sI.toNat := by omega
      rw [e1, ← List.drop_take, heq, ← List.drop_append_of_le_length (by rw [List.length_take]; omega), ← List.take_add]
    rw [hes2] at hL
    unfold LogM.lay at hL
    by_cases hsl : s < f.length
    · obtain ⟨x, hx⟩ : ∃ x, f[s]? = some x := ⟨_, List.getElem?_eq_getElem hsl⟩
      have hen : r.log.entry y.index = some x := by
        rw [n.entry (by omega) (by omega), hyi, ← hx]; congr 1; omega
      rw [hen] at hL
      dsimp only at hL
      by_cases ht : x.term = y.term
      · rw [if_pos ht] at hL
        have h2 := lay_spec hH n hcur d (s + 1) (by omega) (by omega) (by omega) (hH.matchAt n.own hcur hx hy ht) _ rfl L' hL
        rw [show s + (d + 1) = s + 1 + d by omega]
        rcases h2 with h2 | ⟨j, q1, q2⟩
        · exact .inl h2
        · exact .inr ⟨j, by omega, q2⟩
      · rw [if_neg ht] at hL
        by_cases hle : y.index ≤ r.log.commit
        · rw [if_pos hle] at hL; cases hL
        · rw [if_neg hle] at hL
          refine .inr ⟨s, Nat.le_refl _, by omega, hf, by omega, heq, fun x' y' hx' hy' => ?_, hput _ (Option.some.inj hL).symm⟩
          rw [hx] at hx'
          rw [hy] at hy'
          rw [← Option.some.inj hx', ← Option.some.inj hy']; exact ht
    · have hen : r.log.entry y.index = none := n.entry_none (by omega)
      rw [hen] at hL
      dsimp only at hL
      refine .inr ⟨s, Nat.le_refl _, by omega, hf, by omega, heq, fun x' _ hx' _ => ?_, hput _ (Option.some.inj hL).symm⟩
      have := (List.getElem?_eq_some_iff.1 hx').1
      omega

/-- entries laid behind a place where both logs are alike -/
theorem Sys.laid (s : Sys z rs fs sent H0 k H r f) {e : El} (he : H.el r.term = some e) (hrole : r.role = 1) {a d : Nat} (hs : r.log.sI.toNat ≤ a) (hd : a + d ≤ e.cur.length) (hf : a ≤ f.length) (heq : f.take a = e.cur.take a) {L' : LogM} (hL : r.log.lay ((e.cur.drop a).take d) = some L') :
    ∃ f', Sys z rs fs sent H0 k H { r with log := L' } f' ∧ e.cur.take (a + d) <+: f' := by
  rcases lay_spec s.h s.me (s.h.ownCur he) d a hs hd hf heq _ rfl L' hL with ⟨h1, h2⟩ | ⟨j, q1, q2, q3, q4, q5, q6, q7⟩
  · rw [h1]; exact ⟨f, s, h2⟩
  · have hsI0 := s.me.si0
    have hsI1 := s.me.si1
    have hsj : ∀ i, i ≤ j → f.take i = e.cur.take i := by
      intro i hi
      have := congrArg (List.take i) q5
      rwa [List.take_take, List.take_take, Nat.min_eq_left hi] at this
    have hsi : f.take r.log.sI.toNat = e.cur.take r.log.sI.toNat := hsj _ (by omega)
    have hci : f.take r.log.commit.toNat = e.cur.take r.log.commit.toNat := hsj _ (by omega)
    rw [q7]
    refine ⟨e.cur.take (a + d), s.adopt he hd (fun P hPf hPc => pre_take2 hPc ?_) hsI0 hsI1 (by show r.log.commit ≤ ((a + d : Nat) : Int); omega) rfl ?_ ?_ ?_ hrole, List.prefix_refl _⟩
    · refine Nat.not_lt.1 fun hlt => ?_
      obtain ⟨p, hp⟩ : ∃ p, P[j]? = some p := ⟨_, List.getElem?_eq_getElem (by omega)⟩
      exact q6 p p (pre_get hPf hp) (pre_get hPc hp) rfl
    · show r.log.sT = _
      rw [← hsi]; exact s.me.sT
    · show r.log.sM = _
      rw [← hsi]; exact s.me.sM
    · show Committed H r.term (e.cur.take r.log.commit.toNat)
      rw [← hci]; exact s.me.com

/-- it takes over what is committed -/
theorem Sys.settleTo (s : Sys z rs fs sent H0 k H r f) {e : El} (he : H.el r.term = some e) (hrole : r.role = 1) {c last : Int} (h0 : 0 ≤ last) (hl : last ≤ e.cur.length) (hp : e.cur.take last.toNat <+: f) (hc0 : 0 ≤ c) (hc : Committed H r.term (e.cur.take c.toNat)) :
    Sys z rs fs sent H0 k H { r with log := r.log.settle (min c last) } f := by
  have hlast := s.me.last1 s.h
  unfold LogM.settle
  split
  · exact s
  · rename_i hle
    obtain ⟨a1, a2, a3, a4, a5, a6, a7, a8, a9, a10, a11, a12, a13, a14, a15, a16, a17, a18, a19, a20, a21⟩ := s.me
    refine s.stay ⟨a1, a2, a3, a4, a5, by show r.log.sI ≤ max r.log.commit (min c last); omega, by show max r.log.commit (min c last) ≤ _; omega, a8, a9, a10, a11, a12, ?_, a14, a15, a16, a17, a18, a19, fun h => absurd (hrole.symm.trans (show r.role = 3 from h)) (by decide), fun h => absurd (hrole.symm.trans (show r.role = 3 from h)) (by decide)⟩ (fun m h => .inl h) s.bd
    show Committed H r.term (f.take (max r.log.commit (min c last)).toNat)
    clear a20 a21 a19 a18 a17
    rcases Int.le_total (min c last) r.log.commit with h | h
    · rw [Int.max_eq_left h]; exact a13
    · rw [Int.max_eq_right h]
      have hlen : (e.cur.take last.toNat).length = last.toNat := by rw [List.length_take]; omega
      have : f.take (min c last).toNat = e.cur.take (min c last).toNat := by
        rw [take_of_pre hp (by rw [hlen]; omega), List.take_take, Nat.min_eq_left (by omega)]
      rw [this]
      exact hc.pre (take_take_pre _ (by omega))

/-- behind an offer that is taken -/
theorem Sys.taken (s : Sys z rs fs sent H0 k H r f) {e : El} (he : H.el r.term = some e) (hrole : r.role = 1) {m : Msg} (hmf : 1 ≤ m.from_ ∧ m.from_ ≤ 5) (hm0 : 0 ≤ m.commit) (hmc : Committed H r.term (e.cur.take m.commit.toNat)) {last : Int} {L' : LogM} (hlast : 0 ≤ last) (hlen : last ≤ e.cur.length)
    {f' : List Ent} (s' : Sys z rs fs sent H0 k H { r with log := L' } f') (hp : e.cur.take last.toNat <+: f') : ∃ H' f', Sys z rs fs sent H0 k H' (r.offered m (last, true, 0, L')) f' := by
  have hid := s.me.id
  have hk0 := s.me.k0
  have hk1 := s.me.k1
  have s2 := s'.settleTo he hrole hlast hlen hp hm0 hmc
  have s3 := s2.ack he (i := last.toNat) (by omega) hp
  unfold RaftM.offered
  rw [if_neg (by show ¬ ((0 : Int) ≠ 0); omega)]
  refine ⟨_, f', s3.send ⟨by show 1 ≤ r.id; omega, by show r.id ≤ 5; omega, fun h => absurd (show (4 : Int) = 1 from h) (by decide), fun h => absurd (show (4 : Int) = 2 from h) (by decide), fun h => absurd (show (4 : Int) = 3 from h) (by decide), fun _ => ⟨hlast, fun _ => .inr ⟨last.toNat, .inr ⟨hid, rfl, rfl⟩, by show last ≤ _; omega⟩⟩, fun h => absurd (show (4 : Int) = 5 from h) (by decide)⟩ (s3.mbp (kind := 4) (i := last) (by omega) hmf ⟨hlast, by have := s.size _ _ he; omega⟩ ⟨Int.le_refl _, s.nn⟩)⟩

theorem offered_bad {r : RaftM} {m : Msg} {a : Int} {b : Bool} {c : Int} (hc : c ≠ 0) : r.offered m (a, b, c, r.log) = r := by
  unfold RaftM.offered
  rw [if_pos hc]

theorem Sys.offerAt (s : Sys z rs fs sent H0 k H r f) {e : El} (he : H.el r.term = some e) (hrole : r.role = 1) {m : Msg} (hmf : 1 ≤ m.from_ ∧ m.from_ ≤ 5) (hm0 : 0 ≤ m.commit) (hmc : Committed H r.term (e.cur.take m.commit.toNat)) {a d : Nat} (hs : r.log.sI.toNat ≤ a) (hd : a + d ≤ e.cur.length) (hf : a ≤ f.length) (heq : f.take a = e.cur.take a) :
    ∃ H' f', Sys z rs fs sent H0 k H' (r.offered m (r.log.offerAt a ((e.cur.drop a).take d))) f' := by
  unfold LogM.offerAt
  cases hL : r.log.lay ((e.cur.drop a).take d) with
  | none => 
    dsimp only
    rw [offered_bad (by decide)]
    exact ⟨H, f, s⟩
  | some L' =>
    obtain ⟨f', s', hp⟩ := s.laid he hrole hs hd hf heq hL
    dsimp only
    have hl : ((e.cur.drop a).take d).length = d := by rw [List.length_take, List.length_drop]; omega
    rw [hl]
    exact s.taken he hrole hmf hm0 hmc (by omega) (by omega) s' (by rw [show ((a : Int) + (d : Int)).toNat = a + d by omega]; exact hp)

theorem Sys.append (s : Sys z rs fs sent H0 k H r f) {m : Msg} (hm : MsgOk H m) (hk : m.kind = 3) (ht : m.term = r.term) : ∃ H' f', Sys z rs fs sent H0 k H' (r.append m) f' := by
  unfold RaftM.append
  split
  · exact ⟨H, f, s⟩
  · have s1 : Sys z rs fs sent H0 k H (r.hear m.from_) f := s.low rfl rfl rfl rfl rfl rfl ⟨s.bd.1, Int.le_refl _, s.nn, s.bd.2.2.2⟩
    obtain ⟨e, b1, b2, b3, b4, b5, b6, b7, b8⟩ := hm.m3 hk
    rw [ht] at b1 b8
    have hlog : r.log = (r.hear m.from_).log := rfl
    have hrole : (r.hear m.from_).role = 1 := rfl
    have hterm : (r.hear m.from_).term = r.term := rfl
    rw [hlog]
    rw [← hterm] at b1 b8
    generalize r.hear m.from_ = q at s1 hrole b1 b8
    clear s hlog hterm ht
    have hsil := s1.me.sil
    have hsI0 := s1.me.si0
    have hsI1 := s1.me.si1
    unfold LogM.offer
    split
    · split
      · rename_i hlt
        have hstart : f.take q.log.sI.toNat = e.cur.take q.log.sI.toNat := by
          have hc := s1.me.com.inCur s1.h b1
          have h2 : (f.take q.log.sI.toNat) <+: e.cur := (take_take_pre f (by omega)).trans hc
          have h3 := List.prefix_iff_eq_take.1 h2
          rwa [List.length_take, Nat.min_eq_left hsil] at h3
        have hsl : q.log.sI.toNat ≤ e.cur.length := by
          have := congrArg List.length hstart
          rw [List.length_take, List.length_take] at this; omega
        have hes : m.entries.drop (min (q.log.sI - m.index) m.entries.length).toNat = (e.cur.drop q.log.sI.toNat).take (m.entries.length - (q.log.sI - m.index).toNat) := by
          by_cases hle : q.log.sI - m.index ≤ m.entries.length
          · rw [Int.min_eq_left hle]
            conv => lhs; rw [b4]
            rw [List.drop_take, List.drop_drop]
            congr 2; omega
          · rw [Int.min_eq_right (by omega), List.drop_of_length_le (by omega), show m.entries.length - (q.log.sI - m.index).toNat = 0 by omega, List.take_zero]
        have hgo : ∃ H' f', Sys z rs fs sent H0 k H' (q.offered m (q.log.offerAt q.log.sI (m.entries.drop (min (q.log.sI - m.index) m.entries.length).toNat))) f' := by
          have := s1.offerAt b1 hrole ⟨hm.f0, hm.f1⟩ b6 b8 (Nat.le_refl q.log.sI.toNat) (d := m.entries.length - (q.log.sI - m.index).toNat) (by omega) hsil hstart
          rw [show ((q.log.sI.toNat : Nat) : Int) = q.log.sI by omega, ← hes] at this
          exact this
        dsimp only
        split
        · exact hgo
        · split
          · rw [offered_bad (by decide)]; exact ⟨H, f, s1⟩
          · exact hgo
      · rename_i hge
        split
        · rename_i hterm
          have hil : m.index ≤ f.length := by
            refine Int.not_lt.1 fun hlt => ?_
            rw [s1.me.termAt_none (.inr hlt)] at hterm; cases hterm
          have hte := s1.me.termAt (i := m.index) (by omega) hil
          rw [hterm, b5] at hte
          have heq := s1.h.takeEq s1.me.own (s1.h.ownCur b1) (i := m.index.toNat) (by omega) (by omega) (Option.some.inj hte).symm
          have := s1.offerAt b1 hrole ⟨hm.f0, hm.f1⟩ b6 b8 (a := m.index.toNat) (d := m.entries.length) (by omega) b3 (by omega) heq
          rw [show ((m.index.toNat : Nat) : Int) = m.index by omega, ← b4] at this
          exact this
        · unfold RaftM.offered
          rw [if_neg (by show ¬ ((0 : Int) ≠ 0); omega)]
          dsimp only
          have hql := s1.me.last1 s1.h
          have hlz := s1.lz
          have hc1 := s1.me.c1
          have := s1.no (to := m.from_) (.inr rfl) ⟨hm.f0, hm.f1⟩ (i := max q.log.commit (min q.log.last.1 (m.index - 1))) (by omega) (by omega)
          exact ⟨H, f, this⟩
    · rw [offered_bad (by decide)]; exact ⟨H, f, s1⟩

/-! A state of a leader -/
theorem Sys.install (s : Sys z rs fs sent H0 k H r f) {m : Msg} (hm : MsgOk H m) (hmb : MB z m) (hk : m.kind = 5) (ht : m.term = r.term) : ∃ H' f', Sys z rs fs sent H0 k H' (r.install m) f' := by
  unfold RaftM.install
  split
  · exact ⟨H, f, s⟩
  · have s1 : Sys z rs fs sent H0 k H (r.hear m.from_) f := s.low rfl rfl rfl rfl rfl rfl ⟨s.bd.1, Int.le_refl _, s.nn, s.bd.2.2.2⟩
    obtain ⟨e, b1, b2, b3, b4, b5, b6⟩ := hm.m5 hk
    rw [ht] at b1 b6
    have hlog : r.log = (r.hear m.from_).log := rfl
    have hrole : (r.hear m.from_).role = 1 := rfl
    have hterm : (r.hear m.from_).term = r.term := rfl
    rw [hlog]
    rw [← hterm] at b1 b6
    generalize r.hear m.from_ = q at s1 hrole b1 b6
    clear s hlog hterm ht
    have hid := s1.me.id
    have hk0 := s1.me.k0
    have hk1 := s1.me.k1
    have hsil := s1.me.sil
    have hsI0 := s1.me.si0
    have hsI1 := s1.me.si1
    have hc1 := s1.me.c1
    have hcom := s1.me.com.inCur s1.h b1
    have hcl : f.take q.log.commit.toNat = e.cur.take q.log.commit.toNat := by
      have h3 := List.prefix_iff_eq_take.1 hcom
      rwa [List.length_take, Nat.min_eq_left (by omega)] at h3
    have hcle : q.log.commit.toNat ≤ e.cur.length := by
      have := congrArg List.length hcl
      rw [List.length_take, List.length_take] at this; omega
    have reply : ∀ {q' : RaftM} {f' : List Ent} {i : Int}, Sys z rs fs sent H0 k H q' f' → q'.term = q.term → q'.id = q.id → 0 ≤ i → i ≤ e.cur.length → e.cur.take i.toNat <+: f' → ∃ H' f', Sys z rs fs sent H0 k H' (q'.send { kind := 4, to_ := m.from_, ok := true, index := i }) f' := by
      intro q' f' i s' ht' hid' hi0 hi1 hp
      have s3 := s'.ack (by rw [ht']; exact b1) (i := i.toNat) (by omega) hp
      refine ⟨_, f', s3.send ⟨by show 1 ≤ q'.id; omega, by show q'.id ≤ 5; omega, fun h => absurd (show (4 : Int) = 1 from h) (by decide), fun h => absurd (show (4 : Int) = 2 from h) (by decide), fun h => absurd (show (4 : Int) = 3 from h) (by decide), fun _ => ⟨hi0, fun _ => .inr ⟨i.toNat, .inr ⟨by show q'.id = k; omega, rfl, rfl⟩, by show i ≤ _; omega⟩⟩, fun h => absurd (show (4 : Int) = 5 from h) (by decide)⟩ (s3.mbp (kind := 4) (i := i) (by omega) ⟨hm.f0, hm.f1⟩ ⟨hi0, by have := s1.size _ _ b1; omega⟩ ⟨Int.le_refl _, s1.nn⟩)⟩
    split
    · rename_i hlt
      unfold RaftM.installed
      split
      · exact ⟨H, f, s1⟩
      · rename_i hz
        have hreset : (q.log.reset m.index m.logTerm m.members).2 = { sI := m.index, sT := m.logTerm, sM := m.members, ents := if q.log.termAt m.index = some m.logTerm then q.log.ents.drop (m.index - q.log.sI).toNat else [], commit := m.index } := by
          unfold LogM.reset at hz ⊢
          by_cases h1 : pointB m.index m.logTerm m.members = false
          · rw [if_pos h1] at hz; exact absurd (show (102 : Int) ≠ 0 by decide) hz
          · rw [if_neg h1] at hz ⊢
            rw [if_neg (by omega)]
        rw [hreset]
        by_cases hte : q.log.termAt m.index = some m.logTerm
        · rw [if_pos hte]
          have hil : m.index ≤ f.length := by
            refine Int.not_lt.1 fun hlt => ?_
            rw [s1.me.termAt_none (.inr hlt)] at hte; cases hte
          have hte2 := s1.me.termAt (i := m.index) (by omega) hil
          rw [hte, b4] at hte2
          have heq := s1.h.takeEq s1.me.own (s1.h.ownCur b1) (i := m.index.toNat) (by omega) b3 (Option.some.inj hte2).symm
          refine reply (f' := f) ?_ rfl rfl b2 (by omega) (by rw [← heq]; exact List.take_prefix _ _)
          obtain ⟨a1, a2, a3, a4, a5, a6, a7, a8, a9, a10, a11, a12, a13, a14, a15, a16, a17, a18, a19, a20, a21⟩ := s1.me
          refine s1.stay ⟨a1, a2, a3, a4, b2, Int.le_refl _, hil, ?_, ?_, ?_, a11, a12, ?_, a14, a15, a16, a17, a18, fun h => absurd (hrole.symm.trans (show q.role = 2 from h)) (by decide), fun h => absurd (hrole.symm.trans (show q.role = 3 from h)) (by decide), fun h => absurd (hrole.symm.trans (show q.role = 3 from h)) (by decide)⟩ (fun m h => .inl h) ⟨s1.bd.1, s1.bd.2.1, s1.bd.2.2.1, s1.bd.2.2.2.1, hmb.data, s1.bd.2.2.2.2.2⟩
          · show q.log.ents.drop (m.index - q.log.sI).toNat = f.drop m.index.toNat
            rw [a8, List.drop_drop]; clear a20 a21 a19 a18 a17; congr 1; omega
          · show m.logTerm = lastT (f.take m.index.toNat)
            rw [heq]; exact b4
          · show m.members = cfg (f.take m.index.toNat)
            rw [heq]; exact b5
          · show Committed H q.term (f.take m.index.toNat)
            rw [heq]; exact b6
        · rw [if_neg hte]
          refine reply (f' := e.cur.take m.index.toNat) ?_ rfl rfl b2 (by omega) (List.prefix_refl _)
          have s2 := s1.adopt b1 (n := m.index.toNat) b3 (fun P hPf hPc => pre_take2 hPc ?_) (L := { sI := m.index, sT := m.logTerm, sM := m.members, ents := [], commit := m.index }) b2 (Int.le_refl _) (by show m.index ≤ _; omega) ?_ b4 b5 b6 hrole
          · exact s2.stay (s2.me.same rfl rfl rfl rfl rfl rfl rfl) (fun m h => .inl h) ⟨s1.bd.1, s1.bd.2.1, s1.bd.2.2.1, s1.bd.2.2.2.1, hmb.data, s1.bd.2.2.2.2.2⟩
          · refine Nat.not_lt.1 fun hlt2 => hte ?_
            have hfl := hPf.length_le
            rw [s1.me.termAt (i := m.index) (by omega) (by omega), b4]
            rw [take_of_pre hPf (by omega), take_of_pre hPc (by omega)]
          · show [] = (e.cur.take m.index.toNat).drop m.index.toNat
            rw [List.drop_of_length_le (by rw [List.length_take]; omega)]
    · exact reply s1 rfl rfl (by omega) (by omega) (by rw [← hcl]; exact List.take_prefix _ _)

/-! What another one has -/
theorem commitM_next (r : RaftM) (p : Int) : r.commitM.2.next p = r.next p := by
  have hm : r.mark.next p = r.next p := by
    rw [mark_eq, setOther_next]
    split
    · rename_i h
      unfold RaftM.next; rw [h.1]
    · rfl
  have hl : ∀ r : RaftM, r.leave.next p = r.next p := by
    intro r
    unfold RaftM.leave
    split <;> rfl
  unfold RaftM.commitM
  dsimp only
  split
  · exact (hl _).trans hm
  · exact (hl _).trans hm
theorem Sys.appended (s : Sys z rs fs sent H0 k H r f) {m : Msg} (hm : MsgOk H m) (hk : m.kind = 4) (ht : m.term = r.term) : ∃ H' f', Sys z rs fs sent H0 k H' (r.appended m) f' := by
  have hf0 := hm.f0
  have hf1 := hm.f1
  obtain ⟨hi0, hok⟩ := hm.m4 hk
  unfold RaftM.appended
  split
  · exact ⟨H, f, s⟩
  · rename_i hr
    have hr : r.role = 3 := Classical.not_not.1 hr
    have hlast := s.me.last1 s.h
    obtain ⟨e, b1, b2, b3, b4, b5⟩ := s.me.c3 hr
    obtain ⟨q1, q2, q3, q4⟩ := b4 m.from_ hf0 hf1
    have hmt : r.match_ m.from_ ≤ f.length := by
      rcases q4 with q4 | ⟨i, q4, q5⟩
      · omega
      · obtain ⟨e', c1, c2⟩ := s.h.ack _ _ _ q4
        rw [b1] at c1
        obtain rfl := Option.some.inj c1
        rw [b3] at c2; omega
    split
    · split
      · rename_i hlt
        have s1 := s.other (p := m.from_) (nx := max m.index (r.match_ m.from_) + 1) (m := r.match_ m.from_) (by omega) (by
          have : max m.index (r.match_ m.from_) ≤ f.length := by clear q4; omega
          omega) q3 (fun _ _ _ => q4) (by have := s.lz; clear q4; omega)
        exact ⟨H, f, s1.sendTo hr hf0 hf1⟩
      · exact ⟨H, f, s⟩
    · rename_i hno
      have hmo : m.ok = true := by simpa using hno
      split
      · rename_i hle
        rw [hlast] at hle
        have hack := hok hmo
        rw [ht] at hack
        have s1 := s.other (p := m.from_) (nx := max (r.match_ m.from_) m.index + 1) (m := max (r.match_ m.from_) m.index) (by omega) (by
          have : max (r.match_ m.from_) m.index ≤ f.length := by clear q4 hack; omega
          omega) (by omega) (fun _ _ _ => by
          rcases Int.le_total (r.match_ m.from_) m.index with h | h
          · rw [Int.max_eq_right h]; exact hack
          · rw [Int.max_eq_left h]; exact q4) (by have := s.lz; clear q4 hack; omega)
        obtain ⟨H2, s2⟩ := s1.commitM hr
        unfold RaftM.onward
        split
        · exact ⟨H2, f, s2.sendAll⟩
        · split
          · rename_i hc
            exact ⟨H2, f, s2.sendTo hc.1 hf0 hf1⟩
          · exact ⟨H2, f, s2⟩
      · exact ⟨H, f, s⟩

/-! A step -/
theorem Sys.stepped (s : Sys z rs fs sent H0 k H r f) {m : Msg} (hm : MsgOk H m) (hmb : MB z m) (hto : m.to_ = k) (ht : m.term ≤ r.term) : ∃ H' f', Sys (z + 1) rs fs sent H0 k H' (r.stepped m) f' := by
  unfold RaftM.stepped
  split
  · exact ⟨H, f, (s.refuse hm).mono (by omega)⟩
  · have ht : m.term = r.term := by omega
    split
    · rename_i hk
      obtain ⟨H', h⟩ := s.asked hm hk ht
      exact ⟨H', f, h.mono (by omega)⟩
    · split
      · rename_i hk
        exact s.voted hm hk ht hto
      · split
        · rename_i hk
          obtain ⟨H', f', h⟩ := s.append hm hk ht
          exact ⟨H', f', h.mono (by omega)⟩
        · split
          · rename_i hk
            obtain ⟨H', f', h⟩ := s.install hm hmb hk ht
            exact ⟨H', f', h.mono (by omega)⟩
          · split
            · rename_i hk
              obtain ⟨H', f', h⟩ := s.appended hm hk ht
              exact ⟨H', f', h.mono (by omega)⟩
            · exact ⟨H, f, s.mono (by omega)⟩
theorem Sys.stepM (s : Sys z rs fs sent H0 k H r f) {m : Msg} (hm : MsgOk H m) (hmb : MB z m) (hto : m.to_ = k) : ∃ H' f', Sys (z + 1) rs fs sent H0 k H' (r.stepM m) f' := by
  unfold RaftM.stepM
  split
  · rename_i hlt
    refine (s.follow hlt hmb.term.2).stepped hm hmb hto ?_
    unfold RaftM.follow
    rw [if_pos hlt]
    exact Int.le_refl _
  · exact s.stepped hm hmb hto (by omega)

/-! Propose, Change, Compact, New -/
theorem Sys.propose (s : Sys z rs fs sent H0 k H r f) (d : List Int) (hd : d.length ≤ 100) : ∃ H' f', Sys (z + 1) rs fs sent H0 k H' (r.propose d).2.2 f' := by
  unfold RaftM.propose
  split
  · exact ⟨H, f, s.mono (by omega)⟩
  · rename_i hr
    exact s.addM (Classical.not_not.1 hr) hd fun h => absurd h (by decide)

theorem Sys.change (s : Sys z rs fs sent H0 k H r f) (l : List Int) : ∃ H' f', Sys (z + 1) rs fs sent H0 k H' (r.change l).2.2 f' := by
  unfold RaftM.change
  split
  · exact ⟨H, f, s.mono (by omega)⟩
  · rename_i hr
    have hr : r.role = 3 := Classical.not_not.1 hr
    split
    · exact ⟨H, f, s.mono (by omega)⟩
    · rename_i hml
      split
      · exact ⟨H, f, s.mono (by omega)⟩
      · rename_i hc
        refine s.addM hr ?_ fun _ => ?_
        · have : membersB l = true := by simpa using hml
          unfold membersB at this
          simp only [Bool.and_eq_true, decide_eq_true_eq] at this
          omega
        have h1 : r.log.changing = false := by
          cases h : r.log.changing
          · rfl
          · exact absurd (.inl h) hc
        have h2 : (r.log.termAt r.log.commit).getD 0 = r.term := Classical.byContradiction fun h => hc (.inr (.inl h))
        have h3 : diff5 l r.log.members = 1 := Classical.byContradiction fun h => hc (.inr (.inr h))
        have hsI0 := s.me.si0
        have hsI1 := s.me.si1
        have hc1 := s.me.c1
        rw [s.me.termAt (by omega) (by omega), Option.getD_some] at h2
        rw [s.me.members] at h3
        obtain ⟨e, b1, b2, b3, b4, b5⟩ := s.me.c3 hr
        have hlen : (f.take r.log.commit.toNat).length = r.log.commit.toNat := by rw [List.length_take]; omega
        have hpos := s.h.pos _ _ b1
        have hcom : H.com r.term (f.take r.log.commit.toNat) := by
          rcases s.me.c4 hr e b1 with h | h
          · exfalso
            rcases Int.lt_or_eq_of_le (Int.le_trans hsI0 hsI1) with hz | hz
            · obtain ⟨x, x1, x2, x3⟩ := lastT_mem (X := f.take r.log.commit.toNat) (by omega)
              rw [h2] at x3
              have hxf : f[r.log.commit.toNat - 1]? = some x := by
                rw [hlen, List.getElem?_take, if_pos (by omega)] at x2; exact x2
              have := (s.h.curTerm b1 (j := r.log.commit.toNat - 1) (x := x) (by rw [b3]; exact hxf)).2 (by omega)
              omega
            · rw [← hz] at h2
              simp [lastT] at h2
              omega
          · exact h
        refine ⟨f.take r.log.commit.toNat, hcom, by omega, by omega, List.take_prefix _ _, h2, fun i y hi hy hk => ?_, ?_⟩
        · rw [hlen]
          refine Nat.not_le.1 fun hle => ?_
          have hyi := (s.h.index s.me.own hy).1
          unfold LogM.changing at h1
          rw [List.any_eq_false] at h1
          refine h1 y ?_ (by simp only [decide_eq_true_eq]; exact ⟨hk, by omega⟩)
          rw [s.me.ents]
          refine List.mem_of_getElem? (i := i - r.log.sI.toNat) ?_
          rw [List.getElem?_drop, ← hy]; congr 1; omega
        · rw [List.take_of_length_le (Nat.le_refl _), diff_comm]; exact h3

theorem Sys.compact (s : Sys z rs fs sent H0 k H r f) (i : Int) (d : List Int) (hd : d.length ≤ 100) : Sys z rs fs sent H0 k H (r.compact i d) f := by
  unfold RaftM.compact
  split
  · exact s
  · rename_i hz
    have hsI0 := s.me.si0
    have hsI1 := s.me.si1
    have hc1 := s.me.c1
    have hcut : ¬ (i < r.log.sI ∨ r.log.commit < i) := by
      intro h
      unfold LogM.cut at hz
      rw [if_pos h] at hz
      exact hz (show (100 : Int) ≠ 0 by decide)
    have hL : (r.log.cut i).2 = { r.log with sI := i, sT := (r.log.termAt i).getD 0, sM := LogM.membersOf r.log.sM (r.log.ents.take (i - r.log.sI).toNat), ents := r.log.ents.drop (i - r.log.sI).toNat } := by
      unfold LogM.cut
      rw [if_neg hcut]
    rw [hL]
    have hte := s.me.termAt (i := i) (by omega) (by omega)
    obtain ⟨a1, a2, a3, a4, a5, a6, a7, a8, a9, a10, a11, a12, a13, a14, a15, a16, a17, a18, a19, a20, a21⟩ := s.me
    refine s.stay ⟨a1, a2, a3, a4, by show 0 ≤ i; omega, by show i ≤ r.log.commit; omega, a7, ?_, ?_, ?_, a11, a12, a13, a14, a15, a16, a17, a18, a19, a20, a21⟩ (fun m h => .inl h) ⟨s.bd.1, s.bd.2.1, s.bd.2.2.1, s.bd.2.2.2.1, hd, s.bd.2.2.2.2.2⟩
    · show r.log.ents.drop (i - r.log.sI).toNat = f.drop i.toNat
      rw [a8, List.drop_drop]; congr 1; omega
    · show (r.log.termAt i).getD 0 = lastT (f.take i.toNat)
      rw [hte]; rfl
    · show LogM.membersOf r.log.sM (r.log.ents.take (i - r.log.sI).toNat) = cfg (f.take i.toNat)
      rw [a10, a8, ← cfg_append]
      congr 1
      rw [show i.toNat = r.log.sI.toNat + (i - r.log.sI).toNat by omega, List.take_add]

theorem Sys.fresh (s : Sys z rs fs sent H0 k H r f) (st : List Int) (hst : st.length ≤ 100) : Sys z rs fs sent H0 k H (RaftM.fresh k r.term r.vote r.log st) f := by
  refine s.stay (s.me.low s.me.id.symm rfl rfl rfl rfl) (fun m h => absurd h (by simp [RaftM.fresh])) ⟨s.bd.1, Int.le_refl _, s.nn, fun q => ?_, hst, s.bd.2.2.2.2.2⟩
  have := s.nn
  show 0 ≤ (((List.replicate 6 ((0, 0) : Int × Int))[q.toNat]?).getD (0, 0)).1 ∧ (((List.replicate 6 ((0, 0) : Int × Int))[q.toNat]?).getD (0, 0)).1 ≤ z + 1 ∧ 0 ≤ (((List.replicate 6 ((0, 0) : Int × Int))[q.toNat]?).getD (0, 0)).2 ∧ (((List.replicate 6 ((0, 0) : Int × Int))[q.toNat]?).getD (0, 0)).2 ≤ z
  rw [List.getElem?_replicate]
  split
  · rw [Option.getD_some]; dsimp only; omega
  · rw [Option.getD_none]; dsimp only; omega
end
end Go.Proofs.Ytibkmhacpodceaa

/- Plain law: the world of five nodes; what an event does to it; what is held against it. Nothing of memory. -/
namespace Go.Proofs.Ytibkmhacpodceaa

structure WorldM where
  node : Int → RaftM
  sent : List Msg
  com : List Ent
  ldr : List Int

/-- what an event can make of a node -/
inductive Nxt (sent : List Msg) (k : Int) (r : RaftM) : RaftM → Prop
  | same : Nxt sent k r r
  | tick (n : Int) : Nxt sent k r (r.tick n)
  | step (m : Msg) (h : m ∈ sent) (ht : m.to_ = k) : Nxt sent k r (r.stepM m)
  | propose (d : List Int) (h : d.length ≤ 100) : Nxt sent k r (r.propose d).2.2
  | change (l : List Int) : Nxt sent k r (r.change l).2.2
  | compact (i : Int) (d : List Int) (h : d.length ≤ 100) : Nxt sent k r (r.compact i d)
  | fresh : Nxt sent k r (RaftM.fresh k r.term r.vote r.log r.state)

def WorldM.put (w : WorldM) (k : Int) (r : RaftM) : WorldM := { w with node := fun j => if j = k then { r with out := [] } else w.node j, sent := w.sent ++ r.out }

structure Inv (z : Int) (w : WorldM) : Prop where
  ex : ∃ (H : Hist) (fs : Int → List Ent), H.Ok ∧ (∀ T e, H.el T = some e → (e.cur.length : Int) ≤ z) ∧ (∀ j, 1 ≤ j → j ≤ 5 → NodeOk H j (w.node j) (fs j)) ∧ (∀ m, m ∈ w.sent → MsgOk H m) ∧
    (∀ (i : Nat) (x : Ent), w.com[i]? = some x → x.term = 0 ∨ ∃ t P, H.com t P ∧ P[i]? = some x) ∧ (∀ (i : Nat) (p : Int), w.ldr[i]? = some p → p = 0 ∨ ∃ e, H.el i = some e ∧ e.ldr = p)
  nn : 0 ≤ z
  bd : ∀ j, 1 ≤ j → j ≤ 5 → Bd z (w.node j) ∧ (w.node j).out = []
  mb : ∀ m, m ∈ w.sent → MB z m

theorem Inv.next {z : Int} {w : WorldM} (h : Inv z w) {k : Int} (h1 : 1 ≤ k) (h5 : k ≤ 5) {r : RaftM} (hn : Nxt w.sent k (w.node k) r) : Inv (z + 3) (w.put k r) := by
  obtain ⟨H, fs, hH, hz, hnode, hsent, hcom, hldr⟩ := h.ex
  have s : Sys z w.node fs w.sent H k H (w.node k) (fs k) :=
    ⟨Le.refl H, hH, fun j a b _ => hnode j a b, hnode k h1 h5, h.mb, hsent, fun m hm => by rw [(h.bd k h1 h5).2] at hm; simp at hm, hz, h.nn, (h.bd k h1 h5).1, fun m hm => by rw [(h.bd k h1 h5).2] at hm; simp at hm⟩
  obtain ⟨H', f', s'⟩ : ∃ H' f', Sys (z + 3) w.node fs w.sent H k H' r f' := by
    cases hn with
    | same => exact ⟨H, _, s.mono (by omega)⟩
    | tick n => exact s.tick n
    | step m hm ht => obtain ⟨H', f', h⟩ := s.stepM (hsent m hm) (h.mb m hm) ht; exact ⟨H', f', h.mono (by omega)⟩
    | propose d hd => obtain ⟨H', f', h⟩ := s.propose d hd; exact ⟨H', f', h.mono (by omega)⟩
    | change l => obtain ⟨H', f', h⟩ := s.change l; exact ⟨H', f', h.mono (by omega)⟩
    | compact i d hd => exact ⟨H, _, (s.compact i d hd).mono (by omega)⟩
    | fresh => exact ⟨H, _, (s.fresh _ (h.bd k h1 h5).1.2.2.2.2.1).mono (by omega)⟩
  have hnode' : ∀ j, (w.put k r).node j = if j = k then { r with out := [] } else w.node j := fun _ => rfl
  refine ⟨⟨H', fun j => if j = k then f' else fs j, s'.h, s'.size, fun j a b => ?_, fun m hm => ?_, fun i x hx => ?_, fun i p hp => ?_⟩, s'.nn, fun j a b => ?_, fun m hm => ?_⟩
  · rw [hnode']
    dsimp only
    by_cases hj : j = k
    · subst hj
      rw [if_pos rfl, if_pos rfl]
      exact s'.me.same rfl rfl rfl rfl rfl rfl rfl
    · rw [if_neg hj, if_neg hj]
      exact s'.oth j a b hj
  · rcases List.mem_append.1 hm with hm | hm
    · exact s'.sent m hm
    · exact s'.out m hm
  · rcases hcom i x hx with h0 | ⟨t, P, h1, h2⟩
    · exact .inl h0
    · exact .inr ⟨t, P, s'.le0.com _ _ h1, h2⟩
  · rcases hldr i p hp with h0 | ⟨e, h1, h2⟩
    · exact .inl h0
    · obtain ⟨e', k1, k2, _⟩ := s'.le0.el _ _ h1
      exact .inr ⟨e', k1, by rw [k2, h2]⟩
  · rw [hnode']
    by_cases hj : j = k
    · subst hj
      rw [if_pos rfl]
      exact ⟨s'.bd, rfl⟩
    · rw [if_neg hj]
      exact ⟨(h.bd j a b).1.mono (by omega), (h.bd j a b).2⟩
  · rcases List.mem_append.1 hm with hm | hm
    · exact s'.mb m hm
    · exact s'.mo m hm

/-! What holds looks at -/

def Ent.zero : Ent := ⟨0, 0, 0, []⟩
def padEnt (l : List Ent) (n : Nat) : List Ent := l ++ List.replicate (n - l.length) Ent.zero
def setEnt (l : List Ent) (j : Nat) (e : Ent) : List Ent := if ((l[j]?).getD Ent.zero).term = 0 then l.set j e else l
/-- index j + 1 is held against e -/
def noteEnt (l : List Ent) (j : Nat) (e : Ent) : List Ent := setEnt (padEnt l (j + 1)) j e
def padInt (l : List Int) (n : Nat) : List Int := l ++ List.replicate (n - l.length) 0
def setInt (l : List Int) (j : Nat) (k : Int) : List Int := if (l[j]?).getD 0 = 0 then l.set j k else l
def noteInt (l : List Int) (j : Nat) (k : Int) : List Int := setInt (padInt l (j + 1)) j k

theorem padEnt_len (l : List Ent) (n : Nat) : (padEnt l n).length = max l.length n := by simp [padEnt]; omega
theorem padInt_len (l : List Int) (n : Nat) : (padInt l n).length = max l.length n := by simp [padInt]; omega
theorem padEnt_get {l : List Ent} {n i : Nat} {x : Ent} (h : (padEnt l n)[i]? = some x) : l[i]? = some x ∨ x.term = 0 := by
  unfold padEnt at h
  by_cases hi : i < l.length
  · rw [List.getElem?_append_left hi] at h; exact .inl h
  · rw [List.getElem?_append_right (by omega), List.getElem?_replicate] at h
    split at h
    · obtain rfl := Option.some.inj h; exact .inr rfl
    · cases h
theorem padInt_get {l : List Int} {n i : Nat} {x : Int} (h : (padInt l n)[i]? = some x) : l[i]? = some x ∨ x = 0 := by
  unfold padInt at h
  by_cases hi : i < l.length
  · rw [List.getElem?_append_left hi] at h; exact .inl h
  · rw [List.getElem?_append_right (by omega), List.getElem?_replicate] at h
    split at h
    · obtain rfl := Option.some.inj h; exact .inr rfl
    · cases h
theorem noteEnt_get {l : List Ent} {j i : Nat} {e x : Ent} (h : (noteEnt l j e)[i]? = some x) : l[i]? = some x ∨ x.term = 0 ∨ (i = j ∧ x = e) := by
  unfold noteEnt setEnt at h
  split at h
  · rw [List.getElem?_set] at h
    split at h
    · rename_i hij
      split at h
      · exact .inr (.inr ⟨hij.symm, (Option.some.inj h).symm⟩)
      · cases h
    · rcases padEnt_get h with h | h
      · exact .inl h
      · exact .inr (.inl h)
  · rcases padEnt_get h with h | h
    · exact .inl h
    · exact .inr (.inl h)
theorem noteEnt_same {l : List Ent} {j : Nat} {e : Ent} (h : ∀ x, l[j]? = some x → x.term = 0 ∨ x = e) : (noteEnt l j e)[j]? = some e := by
  have hl := padEnt_len l (j + 1)
  unfold noteEnt setEnt
  split
  · rw [List.getElem?_set, if_pos rfl, if_pos (by omega)]
  · rename_i hne
    obtain ⟨x, hx⟩ : ∃ x, (padEnt l (j + 1))[j]? = some x := ⟨_, List.getElem?_eq_getElem (by omega)⟩
    rw [hx, Option.getD_some] at hne
    rcases padEnt_get hx with h1 | h1
    · rcases h x h1 with h2 | h2
      · exact absurd h2 hne
      · rw [hx, h2]
    · exact absurd h1 hne
theorem noteInt_get {l : List Int} {j i : Nat} {e x : Int} (h : (noteInt l j e)[i]? = some x) : l[i]? = some x ∨ x = 0 ∨ (i = j ∧ x = e) := by
  unfold noteInt setInt at h
  split at h
  · rw [List.getElem?_set] at h
    split at h
    · rename_i hij
      split at h
      · exact .inr (.inr ⟨hij.symm, (Option.some.inj h).symm⟩)
      · cases h
    · rcases padInt_get h with h | h
      · exact .inl h
      · exact .inr (.inl h)
  · rcases padInt_get h with h | h
    · exact .inl h
    · exact .inr (.inl h)
theorem noteInt_same {l : List Int} {j : Nat} {e : Int} (h : ∀ x, l[j]? = some x → x = 0 ∨ x = e) : (noteInt l j e)[j]? = some e := by
  have hl := padInt_len l (j + 1)
  unfold noteInt setInt
  split
  · rw [List.getElem?_set, if_pos rfl, if_pos (by omega)]
  · rename_i hne
    obtain ⟨x, hx⟩ : ∃ x, (padInt l (j + 1))[j]? = some x := ⟨_, List.getElem?_eq_getElem (by omega)⟩
    rw [hx, Option.getD_some] at hne
    rcases padInt_get hx with h1 | h1
    · rcases h x h1 with h2 | h2
      · exact absurd h2 hne
      · rw [hx, h2]
    · exact absurd h1 hne

/-- the indexes j + 1 .. j + es.length are held against es -/
def noteAll (l : List Ent) (j : Nat) : List Ent → List Ent
  | [] => l
  | e :: es => noteAll (noteEnt l j e) (j + 1) es
def RaftM.done (r : RaftM) : List Ent := r.log.ents.take (r.log.commit - r.log.sI).toNat

theorem noteAll_get : ∀ {es l : List Ent} {j i : Nat} {x : Ent}, (noteAll l j es)[i]? = some x → l[i]? = some x ∨ x.term = 0 ∨ (j ≤ i ∧ es[i - j]? = some x)
  | [], _, _, _, _, h => .inl h
  | e :: es, l, j, i, x, h => by
    rcases noteAll_get (es := es) h with h | h | ⟨h1, h2⟩
    · rcases noteEnt_get h with h | h | ⟨rfl, rfl⟩
      · exact .inl h
      · exact .inr (.inl h)
      · exact .inr (.inr ⟨Nat.le_refl _, by simp⟩)
    · exact .inr (.inl h)
    · refine .inr (.inr ⟨by omega, ?_⟩)
      rw [show i - j = (i - (j + 1)) + 1 by omega, List.getElem?_cons_succ]; exact h2

/-- what is held is as it must be -/
def Fits (l : List Ent) (r : RaftM) : Prop := ∀ (i : Nat) (x e : Ent), l[r.log.sI.toNat + i]? = some x → r.done[i]? = some e → x.term = 0 ∨ x = e
theorem Fits.step {l : List Ent} {r : RaftM} (h : Fits l r) (n : Nat) : ∀ (i : Nat) (x e : Ent), (noteAll l r.log.sI.toNat (r.done.take n))[r.log.sI.toNat + i]? = some x → r.done[i]? = some e → x.term = 0 ∨ x = e := by
  intro i x e hx he
  rcases noteAll_get hx with h1 | h1 | ⟨h1, h2⟩
  · exact h i x e h1 he
  · exact .inl h1
  · rw [show r.log.sI.toNat + i - r.log.sI.toNat = i by omega, List.getElem?_take] at h2
    split at h2
    · rw [he] at h2; exact .inr (Option.some.inj h2).symm
    · cases h2

theorem NodeOk.doneIs {H : Hist} {k : Int} {r : RaftM} {f : List Ent} (n : NodeOk H k r f) : r.done = (f.drop r.log.sI.toNat).take (r.log.commit - r.log.sI).toNat := by
  unfold RaftM.done; rw [n.ents]
theorem done_get {H : Hist} {k : Int} {r : RaftM} {f : List Ent} (n : NodeOk H k r f) {i : Nat} {e : Ent} (h : r.done[i]? = some e) : (f.take r.log.commit.toNat)[r.log.sI.toNat + i]? = some e := by
  have h0 := n.si0
  have h1 := n.si1
  rw [n.doneIs, List.getElem?_take] at h
  split at h
  · rw [List.getElem?_drop] at h
    rw [List.getElem?_take, if_pos (by omega)]; exact h
  · cases h
theorem Inv.fits {z : Int} {w : WorldM} (h : Inv z w) {k : Int} (h1 : 1 ≤ k) (h5 : k ≤ 5) : Fits w.com (w.node k) := by
  obtain ⟨H, fs, hH, hz, hnode, hsent, hcom, hldr⟩ := h.ex
  intro i x e hx he
  have he' := done_get (hnode k h1 h5) he
  rcases hcom _ x hx with h0 | ⟨t, P, c1, c2⟩
  · exact .inl h0
  · right
    rcases (hnode k h1 h5).com with hc | ⟨t', P', d1, _, d3⟩
    · rw [hc] at he'; simp at he'
    · have he2 := pre_get d3 he'
      rcases hH.coms c1 d1 with hp | hp
      · have := pre_get hp c2
        rw [he2] at this; exact (Option.some.inj this).symm
      · have := pre_get hp he2
        rw [c2] at this; exact Option.some.inj this
def WorldM.noted (w : WorldM) (k : Int) : WorldM :=
  { w with com := noteAll w.com (w.node k).log.sI.toNat (w.node k).done, ldr := if (w.node k).role = 3 then noteInt w.ldr (w.node k).term.toNat k else w.ldr }
theorem Inv.noted {z : Int} {w : WorldM} (h : Inv z w) {k : Int} (h1 : 1 ≤ k) (h5 : k ≤ 5) : Inv z (w.noted k) := by
  obtain ⟨H, fs, hH, hz, hnode, hsent, hcom, hldr⟩ := h.ex
  refine ⟨⟨H, fs, hH, hz, hnode, hsent, fun i x hx => ?_, fun i p hp => ?_⟩, h.nn, h.bd, h.mb⟩
  · rcases noteAll_get hx with h2 | h2 | ⟨h2, h3⟩
    · exact hcom i x h2
    · exact .inl h2
    · right
      have he' := done_get (hnode k h1 h5) h3
      rcases (hnode k h1 h5).com with hc | ⟨t', P', d1, _, d3⟩
      · rw [hc] at he'; simp at he'
      · refine ⟨t', P', d1, ?_⟩
        have := pre_get d3 he'
        rwa [show (w.node k).log.sI.toNat + (i - (w.node k).log.sI.toNat) = i by omega] at this
  · have hp' : (if (w.node k).role = 3 then noteInt w.ldr (w.node k).term.toNat k else w.ldr)[i]? = some p := hp
    split at hp'
    · rename_i hr
      rcases noteInt_get hp' with h2 | h2 | ⟨h2, h3⟩
      · exact hldr i p h2
      · exact .inl h2
      · right
        obtain ⟨e, e1, e2, _⟩ := (hnode k h1 h5).c3 hr
        have ht := (hnode k h1 h5).t0
        refine ⟨e, ?_, by rw [h3, e2]⟩
        rw [h2, show ((w.node k).term.toNat : Int) = (w.node k).term by omega]; exact e1
    · exact hldr i p hp'
/-- who leads: it alone, in its term -/
theorem Inv.alone {z : Int} {w : WorldM} (h : Inv z w) {k : Int} (h1 : 1 ≤ k) (h5 : k ≤ 5) (hr : (w.node k).role = 3) :
    1 ≤ (w.node k).term ∧ (w.node k).term ≤ z ∧ ∀ p, w.ldr[(w.node k).term.toNat]? = some p → p = 0 ∨ p = k := by
  obtain ⟨H, fs, hH, hz, hnode, hsent, hcom, hldr⟩ := h.ex
  obtain ⟨e, e1, e2, _⟩ := (hnode k h1 h5).c3 hr
  have ht := hH.pos _ _ e1
  refine ⟨by omega, (h.bd k h1 h5).1.1, fun p hp => ?_⟩
  rcases hldr _ p hp with h0 | ⟨e', c1, c2⟩
  · exact .inl h0
  · right
    rw [show ((w.node k).term.toNat : Int) = (w.node k).term by omega, e1] at c1
    obtain rfl := Option.some.inj c1
    rw [← c2, e2]

/-! The beginning -/
def WorldM.start : WorldM := { node := fun k => RaftM.fresh k 0 0 { sI := 0, sT := 0, sM := [1, 2, 3], ents := [], commit := 0 } [], sent := [], com := [], ldr := [] }
def Hist.none_ : Hist := { el := fun _ => none, com := fun _ _ => False, ack := fun _ _ _ => False, cand := fun _ _ => none, vote := fun _ _ _ _ => False }
theorem Hist.none_ok : Hist.none_.Ok where
  pre := fun _ _ h => nomatch h
  own := fun _ _ h => nomatch h
  low := fun _ _ h => nomatch h
  own_ := fun _ _ h => nomatch h
  pos := fun _ _ h => nomatch h
  dat := fun _ _ h => nomatch h
  mem := fun _ _ h => nomatch h
  com := fun _ _ h => False.elim h
  ack := fun _ _ _ h => False.elim h
  vot := fun _ _ h => nomatch h
  one := fun _ _ _ _ _ _ h => False.elim h
  vow := fun _ _ _ _ h => False.elim h
  vp := fun _ _ _ _ h => False.elim h
  full := fun _ _ h => False.elim h
theorem Inv.start : Inv 0 WorldM.start where
  ex := by
    refine ⟨Hist.none_, fun _ => [], Hist.none_ok, fun _ _ h => (nomatch h), fun j a b => ?_, fun m hm => by simp [WorldM.start] at hm, fun i x hx => by simp [WorldM.start] at hx, fun i p hp => by simp [WorldM.start] at hp⟩
    exact ⟨rfl, a, b, Int.le_refl _, Int.le_refl _, Int.le_refl _, Int.le_refl _, rfl, rfl, rfl, fun j x hx => by simp at hx, fun x hx => by simp at hx, .inl rfl, fun _ _ _ _ h => False.elim h, fun _ _ _ h => False.elim h, fun _ _ h => (nomatch h), fun _ _ h => (nomatch h), .inl rfl,
      fun h => absurd (show (1 : Int) = 2 from h) (by decide), fun h => absurd (show (1 : Int) = 3 from h) (by decide), fun h => absurd (show (1 : Int) = 3 from h) (by decide)⟩
  nn := Int.le_refl _
  bd := fun j _ _ => by
    refine ⟨⟨Int.le_refl _, Int.le_refl _, Int.le_refl _, fun q => ?_, by simp [WorldM.start, RaftM.fresh], Int.le_refl _, by show (0 : Int) ≤ 5; omega⟩, rfl⟩
    show 0 ≤ (((List.replicate 6 ((0, 0) : Int × Int))[q.toNat]?).getD (0, 0)).1 ∧ (((List.replicate 6 ((0, 0) : Int × Int))[q.toNat]?).getD (0, 0)).1 ≤ 0 + 1 ∧ 0 ≤ (((List.replicate 6 ((0, 0) : Int × Int))[q.toNat]?).getD (0, 0)).2 ∧ (((List.replicate 6 ((0, 0) : Int × Int))[q.toNat]?).getD (0, 0)).2 ≤ 0
    rw [List.getElem?_replicate]
    split
    · rw [Option.getD_some]; dsimp only; omega
    · rw [Option.getD_none]; dsimp only; omega
  mb := fun m hm => by simp [WorldM.start] at hm
end Go.Proofs.Ytibkmhacpodceaa

/- Plain law: how many messages a move gives; how long what is held against the world grows. Nothing of memory. -/
namespace Go.Proofs.Ytibkmhacpodceaa

/-- as many messages at most as there are members, and one -/
def Few (r r' : RaftM) : Prop := r'.out.length ≤ r.out.length + r'.log.members.length + 1

theorem sendTo_few8 (r : RaftM) (p : Int) : (r.sendTo p).out.length = r.out.length + 1 := by unfold RaftM.sendTo; split <;> simp [RaftM.send]
theorem sendTo_log8 (r : RaftM) (p : Int) : (r.sendTo p).log = r.log := by unfold RaftM.sendTo; split <;> rfl
theorem sendEach_few8 : ∀ (l : List Int) (r : RaftM), (r.sendEach l).out.length ≤ r.out.length + l.length ∧ (r.sendEach l).log = r.log
  | [], r => ⟨Nat.le_refl _, rfl⟩
  | p :: l, r => by
    unfold RaftM.sendEach
    split
    · obtain ⟨h1, h2⟩ := sendEach_few8 l (r.sendTo p)
      rw [sendTo_few8] at h1
      rw [sendTo_log8] at h2
      exact ⟨by simp only [List.length_cons]; omega, h2⟩
    · obtain ⟨h1, h2⟩ := sendEach_few8 l r
      exact ⟨by simp only [List.length_cons]; omega, h2⟩
theorem sendAll_few8 (r : RaftM) : r.sendAll.out.length ≤ r.out.length + r.log.members.length ∧ r.sendAll.log = r.log := by
  unfold RaftM.sendAll
  split
  · exact ⟨by omega, rfl⟩
  · exact sendEach_few8 _ _
theorem leave_few8 (r : RaftM) : r.leave.out = r.out ∧ r.leave.log = r.log := by unfold RaftM.leave; split <;> exact ⟨rfl, rfl⟩
theorem commitM_few8 (r : RaftM) : r.commitM.2.out = r.out := by
  unfold RaftM.commitM
  dsimp only
  split
  · exact (leave_few8 _).1
  · exact (leave_few8 _).1
theorem commitAll_few8 (r : RaftM) : r.commitM.2.sendAll.out.length ≤ r.out.length + r.commitM.2.sendAll.log.members.length := by
  obtain ⟨h1, h2⟩ := sendAll_few8 r.commitM.2
  rw [commitM_few8] at h1
  rw [h2]; exact h1
theorem lead_few8 (r : RaftM) : Few r r.lead := by
  unfold Few RaftM.lead
  dsimp only
  exact Nat.le_trans (commitAll_few8 _) (Nat.le_succ _)
theorem elected_few8 (r : RaftM) : Few r r.elected.2 := by
  unfold RaftM.elected
  split
  · exact lead_few8 r
  · unfold Few; dsimp only; omega
theorem askEach_len8 (last term : Int) : ∀ (l : List Int) (r : RaftM), (r.askEach last term l).out.length ≤ r.out.length + l.length ∧ (r.askEach last term l).log = r.log
  | [], r => ⟨Nat.le_refl _, rfl⟩
  | p :: l, r => by
    unfold RaftM.askEach
    split
    · obtain ⟨h1, h2⟩ := askEach_len8 last term l (r.send { kind := 1, to_ := p, index := last, logTerm := term })
      refine ⟨?_, h2⟩
      have e : (r.send { kind := 1, to_ := p, index := last, logTerm := term }).out.length = r.out.length + 1 := by simp [RaftM.send]
      rw [e] at h1
      simp only [List.length_cons]; omega
    · obtain ⟨h1, h2⟩ := askEach_len8 last term l r
      exact ⟨by simp only [List.length_cons]; omega, h2⟩
theorem want_few8 (r : RaftM) : Few r r.want := by
  unfold RaftM.want
  split
  · unfold Few; omega
  · split
    · exact elected_few8 r.stand
    · obtain ⟨h1, h2⟩ := askEach_len8 r.log.last.1 r.log.last.2 r.log.members r.stand
      unfold Few
      rw [h2]
      exact Nat.le_trans h1 (Nat.le_succ _)
theorem tick_few8 (r : RaftM) (n : Int) : Few r (r.tick n) := by
  unfold RaftM.tick
  split
  · unfold Few
    obtain ⟨h1, h2⟩ := sendAll_few8 r
    rw [h2]; omega
  · split
    · exact want_few8 { r with elapsed := r.elapsed + 1 }
    · unfold Few; dsimp only; omega
theorem addM_few8 (r : RaftM) (kind : Int) (d : List Int) : Few r (r.addM kind d).2.2 := by
  unfold RaftM.addM
  dsimp only
  split
  · unfold Few; dsimp only; omega
  · exact Nat.le_trans (commitAll_few8 _) (Nat.le_succ _)
theorem propose_few8 (r : RaftM) (d : List Int) : Few r (r.propose d).2.2 := by
  unfold RaftM.propose
  split
  · unfold Few; dsimp only; omega
  · exact addM_few8 r _ _
theorem change_few8 (r : RaftM) (l : List Int) : Few r (r.change l).2.2 := by
  unfold RaftM.change
  repeat' split
  all_goals first
    | (unfold Few; dsimp only; omega)
    | exact addM_few8 r _ _
theorem send_few {r q : RaftM} (m : Msg) (h : q.out = r.out) : Few r (q.send m) := by
  unfold Few RaftM.send
  simp only [List.length_append, List.length_singleton, h]; omega
theorem few_same {r q : RaftM} (h : q.out = r.out) : Few r q := by unfold Few; rw [h]; omega
theorem offered_few8 {r q : RaftM} (m : Msg) (o : Int × Bool × Int × LogM) (h : q.out = r.out) : Few r (q.offered m o) := by
  unfold RaftM.offered
  split
  · exact few_same h
  · exact send_few _ h
theorem onward_few8 {r : RaftM} (p last next : Int) (c : Bool × RaftM) (h : c.2.out = r.out) : Few r (RaftM.onward p last next c) := by
  unfold RaftM.onward
  split
  · obtain ⟨h1, h2⟩ := sendAll_few8 c.2
    unfold Few
    rw [h2]; rw [h] at h1; omega
  · split
    · unfold Few
      rw [sendTo_few8, h]; omega
    · exact few_same h
theorem stepped_few8 (r : RaftM) (m : Msg) : Few r (r.stepped m) := by
  unfold RaftM.stepped
  split
  · unfold RaftM.refuse
    repeat' split
    all_goals first | exact send_few _ rfl | exact few_same rfl
  split
  · unfold RaftM.asked
    split
    · exact send_few _ rfl
    · exact send_few _ rfl
  split
  · split
    · exact elected_few8 { r with votes := r.votes.set m.from_.toNat true }
    · exact few_same rfl
  split
  · unfold RaftM.append
    split
    · exact few_same rfl
    · exact offered_few8 m _ rfl
  split
  · unfold RaftM.install
    split
    · exact few_same rfl
    · split
      · unfold RaftM.installed
        split
        · exact few_same rfl
        · exact send_few _ rfl
      · exact send_few _ rfl
  split
  · unfold RaftM.appended
    split
    · exact few_same rfl
    · split
      · split
        · unfold Few; rw [sendTo_few8]; show r.out.length + 1 ≤ _; omega
        · exact few_same rfl
      · split
        · exact onward_few8 _ _ _ _ (commitM_few8 _)
        · exact few_same rfl
  · exact few_same rfl
theorem stepM_few8 (r : RaftM) (m : Msg) : Few r (r.stepM m) := by
  unfold RaftM.stepM
  split
  · have h := stepped_few8 (r.follow m.term) m
    have e : (r.follow m.term).out = r.out := by unfold RaftM.follow; split <;> rfl
    unfold Few at h ⊢
    rw [e] at h
    exact h
  · exact stepped_few8 r m
theorem Nxt.few {sent : List Msg} {k : Int} {r r' : RaftM} (h : Nxt sent k r r') (h0 : r.out = []) : Few r r' := by
  cases h with
  | same => exact few_same rfl
  | tick n => exact tick_few8 r n
  | step m _ _ => exact stepM_few8 r m
  | propose d _ => exact propose_few8 r d
  | change l => exact change_few8 r l
  | compact i d _ => unfold RaftM.compact; split <;> exact few_same rfl
  | fresh => exact few_same h0.symm
theorem Inv.lens {z : Int} {w : WorldM} (h : Inv z w) {k : Int} (h1 : 1 ≤ k) (h5 : k ≤ 5) {r : RaftM} (hn : Nxt w.sent k (w.node k) r) : r.out.length ≤ 6 := by
  have hf := hn.few (h.bd k h1 h5).2
  obtain ⟨H, fs, hH, _, hnode, _⟩ := (h.next h1 h5 hn).ex
  have n := hnode k h1 h5
  have hm : ((w.put k r).node k).log.members = r.log.members := by
    show LogM.members (if k = k then { r with out := [] } else w.node k : RaftM).log = _
    rw [if_pos rfl]
  have hl := (membersB_cfg hH n.own)
  rw [← n.members, hm] at hl
  unfold membersB at hl
  simp only [Bool.and_eq_true, decide_eq_true_eq] at hl
  have h0 := (h.bd k h1 h5).2
  unfold Few at hf
  rw [h0] at hf
  simp only [List.length_nil] at hf
  omega

/-! what is noted, step by step -/
theorem noteAll_snoc : ∀ (es : List Ent) (l : List Ent) (j : Nat) (e : Ent), noteAll l j (es ++ [e]) = noteEnt (noteAll l j es) (j + es.length) e
  | [], _, _, _ => rfl
  | x :: es, l, j, e => by
    show noteAll (noteEnt l j x) (j + 1) (es ++ [e]) = noteEnt (noteAll (noteEnt l j x) (j + 1) es) _ e
    rw [noteAll_snoc es _ (j + 1) e]
    congr 1
    simp only [List.length_cons]; omega
theorem noteAll_take {es l : List Ent} {j n : Nat} {e : Ent} (h : es[n]? = some e) : noteAll l j (es.take (n + 1)) = noteEnt (noteAll l j (es.take n)) (j + n) e := by
  obtain ⟨hn, rfl⟩ := List.getElem?_eq_some_iff.1 h
  rw [List.take_succ_eq_append_getElem hn, noteAll_snoc, List.length_take, Nat.min_eq_left (by omega)]
theorem noteEnt_len (l : List Ent) (j : Nat) (e : Ent) : (noteEnt l j e).length = max l.length (j + 1) := by
  unfold noteEnt setEnt
  split
  · rw [List.length_set, padEnt_len]
  · exact padEnt_len _ _
theorem noteAll_len : ∀ (es l : List Ent) (j : Nat), (noteAll l j es).length ≤ max l.length (j + es.length)
  | [], l, j => by show l.length ≤ _; omega
  | x :: es, l, j => by
    have h := noteAll_len es (noteEnt l j x) (j + 1)
    rw [noteEnt_len] at h
    show (noteAll (noteEnt l j x) (j + 1) es).length ≤ _
    simp only [List.length_cons]; omega
theorem noteInt_len (l : List Int) (j : Nat) (e : Int) : (noteInt l j e).length = max l.length (j + 1) := by
  unfold noteInt setInt
  split
  · rw [List.length_set, padInt_len]
  · exact padInt_len _ _
theorem padEnt_snoc {l : List Ent} {n : Nat} (h : l.length ≤ n) : padEnt l n ++ [Ent.zero] = padEnt l (n + 1) := by
  unfold padEnt
  rw [List.append_assoc, ← List.replicate_succ', show n - l.length + 1 = n + 1 - l.length by omega]
theorem padInt_snoc {l : List Int} {n : Nat} (h : l.length ≤ n) : padInt l n ++ [0] = padInt l (n + 1) := by
  unfold padInt
  rw [List.append_assoc, ← List.replicate_succ', show n - l.length + 1 = n + 1 - l.length by omega]
theorem padEnt_self {l : List Ent} {n : Nat} (h : n ≤ l.length) : padEnt l n = l := by
  unfold padEnt; rw [show n - l.length = 0 by omega]; simp
theorem padInt_self {l : List Int} {n : Nat} (h : n ≤ l.length) : padInt l n = l := by
  unfold padInt; rw [show n - l.length = 0 by omega]; simp

/-- sizes of a world's rows -/
structure Lens (i : Nat) (z : Int) (w : WorldM) : Prop where
  sent : w.sent.length ≤ 6 * i
  com : (w.com.length : Int) ≤ z
  ldr : (w.ldr.length : Int) ≤ z + 1
theorem Lens.put {i : Nat} {z : Int} {w : WorldM} (h : Lens i z w) {k : Int} {r : RaftM} (hr : r.out.length ≤ 6) : Lens (i + 1) (z + 3) (w.put k r) := by
  refine ⟨?_, by have := h.com; show (w.com.length : Int) ≤ _; omega, by have := h.ldr; show (w.ldr.length : Int) ≤ _; omega⟩
  have := h.sent
  show (w.sent ++ r.out).length ≤ _
  rw [List.length_append]; omega
theorem Lens.mono {i j : Nat} {z y : Int} {w : WorldM} (h : Lens i z w) (hi : i ≤ j) (hz : z ≤ y) : Lens j y w := by
  obtain ⟨a, b, c⟩ := h
  exact ⟨by omega, by omega, by omega⟩
theorem Inv.commit_le {z : Int} {w : WorldM} (h : Inv z w) {k : Int} (h1 : 1 ≤ k) (h5 : k ≤ 5) : 0 ≤ (w.node k).log.sI ∧ (w.node k).log.sI ≤ (w.node k).log.commit ∧ (w.node k).log.commit ≤ (w.node k).log.sI + (w.node k).log.ents.length ∧ (w.node k).log.sI + (w.node k).log.ents.length ≤ z := by
  obtain ⟨H, fs, hH, hz, hnode, _⟩ := h.ex
  have n := hnode k h1 h5
  have hl : ((fs k).length : Int) ≤ z := by
    by_cases h0 : (fs k).length = 0
    · have := h.nn; omega
    · obtain ⟨x, hx⟩ : ∃ x, (fs k)[(fs k).length - 1]? = some x := ⟨_, List.getElem?_eq_getElem (by omega)⟩
      obtain ⟨e, e1, _, e3⟩ := n.own _ _ hx
      have := e3.length_le
      have := hz _ e e1
      rw [List.length_take] at *
      omega
  have h2 := n.sil
  have h3 := n.si0
  have h4 := n.si1
  have h6 := n.c1
  rw [n.ents, List.length_drop]
  exact ⟨h3, h4, by omega, by omega⟩
theorem Inv.done_len {z : Int} {w : WorldM} (h : Inv z w) {k : Int} (h1 : 1 ≤ k) (h5 : k ≤ 5) : ((w.node k).done.length : Int) = (w.node k).log.commit - (w.node k).log.sI := by
  obtain ⟨a, b, c, d⟩ := h.commit_le h1 h5
  unfold RaftM.done
  rw [List.length_take]; omega
theorem Lens.noted {i : Nat} {z : Int} {w : WorldM} (h : Lens i z w) (hi : Inv z w) {k : Int} (h1 : 1 ≤ k) (h5 : k ≤ 5) : Lens i z (w.noted k) := by
  obtain ⟨a, b, c⟩ := h
  obtain ⟨c1, c2, c3, c4⟩ := hi.commit_le h1 h5
  have hd := hi.done_len h1 h5
  refine ⟨a, ?_, ?_⟩
  · have := noteAll_len (w.node k).done w.com (w.node k).log.sI.toNat
    show ((noteAll w.com (w.node k).log.sI.toNat (w.node k).done).length : Int) ≤ z
    omega
  · show ((if (w.node k).role = 3 then noteInt w.ldr (w.node k).term.toNat k else w.ldr).length : Int) ≤ z + 1
    split
    · rename_i hr
      obtain ⟨t1, t2, _⟩ := hi.alone h1 h5 hr
      rw [noteInt_len]; omega
    · exact c
end Go.Proofs.Ytibkmhacpodceaa
