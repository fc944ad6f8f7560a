/- Words for memory, ours: blocks known whole, owners of blocks, slices that read as lists of things, rows that are appended to. Nothing of the program. -/
import Derived.WalkKit
import Derived.WalkSpells
import Derived.WalkLawsBesides
import Derived.Deep.Draws
import Derived.Deep.AppendLies
import Derived.Test.YtibkmhacpodceaaPlain
namespace Go.Proofs.Ytibkmhacpodceaa
open Go.RowKit

/-! Blocks -/

def Blk (w : World) (g : Nat) (t : TypeId) (cs : List Value) : Prop := w.heap[g]? = some (.cells cs.toArray t (0, 0))

section
variable {w w' : World} {g : Nat} {t : TypeId} {cs : List Value}
theorem Blk.lt (h : Blk w g t cs) : g < w.heap.size := (Array.getElem?_eq_some_iff.1 h).1
theorem Blk.cell (h : Blk w g t cs) (i : Nat) : w.cell? ⟨g, i, none⟩ = cs[i]? := by
  rw [cell_of_row w g i cs.toArray t (0, 0) h]; simp
theorem Blk.frozen (h : Blk w g t cs) (i : Nat) : w.frozen? ⟨g, i, none⟩ = false := by
  unfold Blk at h
  simp [World.frozen?, h]
theorem Blk.cells (h : Blk w g t cs) : ∀ i, w.cell? ⟨g, i, none⟩ = cs[i]? := h.cell
theorem Blk.frozens (h : Blk w g t cs) : ∀ i, w.frozen? ⟨g, i, none⟩ = false := h.frozen
theorem Blk.new (w : World) (t : TypeId) (cs : List Value) : Blk (w.alloc (.cells cs.toArray t)) w.heap.size t cs := heap_alloc_new w _
theorem Blk.alloc (h : Blk w g t cs) (o : Obj) : Blk (w.alloc o) g t cs := (Below.heap_alloc w o g h.lt).trans h
theorem Blk.drew (h : Blk w g t cs) : Blk w.drew g t cs := h
theorem Blk.set_ (h : Blk w g t cs) (i : Nat) (u : Value) : Blk (w.setCell ⟨g, i, none⟩ u) g t (cs.set i u) := by
  unfold Blk at h ⊢
  simp [World.setCell, Array.getElem?_modify, h]
theorem Blk.far (h : Blk w g t cs) {p : Addr} (hp : g ≠ p.block) (u : Value) : Blk (w.setCell p u) g t cs := (Below.heap_setCell w p u g hp).trans h
theorem Blk.same (h : Blk w g t cs) (e : w'.heap[g]? = w.heap[g]?) : Blk w' g t cs := e.trans h
theorem Blk.ne_ {g' : Nat} {t' : TypeId} {cs' : List Value} (h : Blk w g t cs) (h' : Blk w g' t' cs') (hne : t ≠ t') : g ≠ g' := by
  rintro rfl
  unfold Blk at h h'
  rw [h] at h'
  injection h' with h'
  injection h' with _ ht
  exact hne ht
end

theorem keeps {w w' : World} {B g : Nat} {cs : List Value} (hb : Below B w w') (hg : g < B) (k : ∀ i, w.cell? ⟨g, i, none⟩ = cs[i]?) (f : ∀ i, w.frozen? ⟨g, i, none⟩ = false) :
    (∀ i, w'.cell? ⟨g, i, none⟩ = cs[i]?) ∧ (∀ i, w'.frozen? ⟨g, i, none⟩ = false) :=
  ⟨fun i => (hb.cell (p := ⟨g, i, none⟩) hg).trans (k i), fun i => (hb.frozen (p := ⟨g, i, none⟩) hg).trans (f i)⟩
theorem below_drewN {B : Nat} {a w : World} (h : Below B a w) (n : Nat) : Below B a (w.drewN n) := ⟨h.os, h.tape, h.output, h.size, h.block⟩

/-! Owners: each block has one; owner 0: nobody writes it again. -/

abbrev Own := Nat → Nat
def Wf (o : Own) (w : World) : Prop := ∀ b, w.heap.size ≤ b → o b = 0

def upd (o : Own) (g k : Nat) : Own := fun b => if b = g then k else o b
theorem upd_same (o : Own) (g k : Nat) : upd o g k g = k := by simp [upd]
theorem upd_other (o : Own) {g k b : Nat} (h : b ≠ g) : upd o g k b = o b := by simp [upd, h]

structure Ext (S : List Nat) (o o' : Own) (w w' : World) : Prop where
  os : w'.os = w.os
  tape : w'.tape = w.tape
  output : w'.output = w.output
  size : w.heap.size ≤ w'.heap.size
  own : ∀ b, b < w.heap.size → o' b = o b
  wf : Wf o w → Wf o' w'
  keep : ∀ b, b < w.heap.size → o b ∉ S → w'.heap[b]? = w.heap[b]?

section
variable {S : List Nat} {o o' o'' : Own} {w w' w'' : World}
theorem Ext.refl (S : List Nat) (o : Own) (w : World) : Ext S o o w w := ⟨rfl, rfl, rfl, Nat.le_refl _, fun _ _ => rfl, fun h => h, fun _ _ _ => rfl⟩
theorem Ext.trans (h : Ext S o o' w w') (k : Ext S o' o'' w' w'') : Ext S o o'' w w'' :=
  ⟨k.os.trans h.os, k.tape.trans h.tape, k.output.trans h.output, Nat.le_trans h.size k.size,
   fun b hb => (k.own b (Nat.lt_of_lt_of_le hb h.size)).trans (h.own b hb), fun hw => k.wf (h.wf hw),
   fun b hb hn => (k.keep b (Nat.lt_of_lt_of_le hb h.size) (by rw [h.own b hb]; exact hn)).trans (h.keep b hb hn)⟩
theorem Ext.mono {S' : List Nat} (h : Ext S o o' w w') (hs : ∀ k, k ∈ S → k ∈ S') : Ext S' o o' w w' :=
  ⟨h.os, h.tape, h.output, h.size, h.own, h.wf, fun b hb hn => h.keep b hb (fun hk => hn (hs _ hk))⟩
theorem Ext.drew (h : Ext S o o' w w') : Ext S o o' w w'.drew := ⟨h.os, h.tape, h.output, h.size, h.own, h.wf, h.keep⟩
theorem Ext.drewN (h : Ext S o o' w w') (n : Nat) : Ext S o o' w (w'.drewN n) := ⟨h.os, h.tape, h.output, h.size, h.own, h.wf, h.keep⟩
theorem Ext.alloc (h : Ext S o o' w w') (x : Obj) : Ext S o o' w (w'.alloc x) :=
  ⟨h.os, h.tape, h.output, Nat.le_trans h.size (by simp), h.own, fun hw b hb => h.wf hw b (by simp at hb; omega),
   fun b hb hn => (Below.heap_alloc w' x b (Nat.lt_of_lt_of_le hb h.size)).trans (h.keep b hb hn)⟩
/-- A new block with an owner. -/
theorem Ext.give (h : Ext S o o' w w') {g k : Nat} (hg : w.heap.size ≤ g) (hg' : g < w'.heap.size) : Ext S o (upd o' g k) w w' :=
  ⟨h.os, h.tape, h.output, h.size, fun b hb => (upd_other o' (by omega)).trans (h.own b hb),
   fun hw b hb => (upd_other o' (by omega)).trans (h.wf hw b hb), h.keep⟩
theorem Ext.setCell (h : Ext S o o' w w') {p : Addr} (hp : w.heap.size ≤ p.block ∨ o p.block ∈ S) (u : Value) : Ext S o o' w (w'.setCell p u) :=
  ⟨h.os, h.tape, h.output, by simpa using h.size, h.own, fun hw b hb => h.wf hw b (by simpa using hb),
   fun b hb hn => (Below.heap_setCell w' p u b (by rintro rfl; rcases hp with hp | hp; omega; exact hn hp)).trans (h.keep b hb hn)⟩
theorem Ext.of_below (h : Below w.heap.size w w') (hw : Wf o w) : Ext S o o w w' :=
  ⟨h.os, h.tape, h.output, h.size, fun _ _ => rfl, fun _ b hb => hw b (Nat.le_trans h.size hb), fun b hb _ => h.block b hb⟩
theorem Ext.below (h : Ext [] o o' w w') : Below w.heap.size w w' := ⟨h.os, h.tape, h.output, h.size, fun b hb => h.keep b hb (by simp)⟩
theorem Ext.blk (h : Ext S o o' w w') {g : Nat} {t : TypeId} {cs : List Value} (hb : Blk w g t cs) (hn : o g ∉ S) : Blk w' g t cs := hb.same (h.keep g hb.lt hn)
theorem Ext.cell (h : Ext S o o' w w') {p : Addr} (hb : p.block < w.heap.size) (hn : o p.block ∉ S) : w'.cell? p = w.cell? p := World.cell?_of_block (h.keep p.block hb hn)
end

/-- The blocks that stay as they are from w to w'. -/
structure Stays (B B' : Nat → Prop) (w w' : World) : Prop where
  size : w.heap.size ≤ w'.heap.size
  block : ∀ b, B b → b < w.heap.size → B' b ∧ w'.heap[b]? = w.heap[b]?
section
variable {B B' B'' : Nat → Prop} {w w' w'' : World}
theorem Stays.trans (h : Stays B B' w w') (k : Stays B' B'' w' w'') : Stays B B'' w w'' :=
  ⟨Nat.le_trans h.size k.size, fun b hb hl => by
    obtain ⟨h1, h2⟩ := h.block b hb hl
    obtain ⟨h3, h4⟩ := k.block b h1 (Nat.lt_of_lt_of_le hl h.size)
    exact ⟨h3, h4.trans h2⟩⟩
theorem Stays.cell (h : Stays B B' w w') {p : Addr} (hb : B p.block) (hl : p.block < w.heap.size) : w'.cell? p = w.cell? p := World.cell?_of_block (h.block _ hb hl).2
theorem Stays.of_below (h : Below w.heap.size w w') : Stays B B w w' := ⟨h.size, fun b hb hl => ⟨hb, h.block b hl⟩⟩
theorem Stays.setCell (h : Stays B B' w w') {p : Addr} (hp : ¬ B' p.block) (u : Value) : Stays B B' w (w'.setCell p u) :=
  h.trans ⟨by simp, fun b hb _ => ⟨hb, Below.heap_setCell w' p u b (by rintro rfl; exact hp hb)⟩⟩
theorem Stays.alloc (h : Stays B B' w w') (x : Obj) : Stays B B' w (w'.alloc x) := h.trans ⟨by simp, fun b hb hl => ⟨hb, Below.heap_alloc w' x b hl⟩⟩
theorem Stays.drew (h : Stays B B' w w') : Stays B B' w w'.drew := h.trans ⟨Nat.le_refl _, fun _ hb _ => ⟨hb, rfl⟩⟩
theorem Stays.refl (B : Nat → Prop) (w : World) : Stays B B w w := ⟨Nat.le_refl _, fun _ hb _ => ⟨hb, rfl⟩⟩
theorem Stays.weak (w : World) (h : ∀ b, B b → B' b) : Stays B B' w w := ⟨Nat.le_refl _, fun b hb _ => ⟨h b hb, rfl⟩⟩
end

/-- The blocks of owner k. -/
def Of (o : Own) (k : Nat) : Nat → Prop := fun b => o b = k
def Any : Nat → Prop := fun _ => True
def From (n : Nat) : Nat → Prop := fun b => n ≤ b

theorem Ext.stays {S : List Nat} {o o' : Own} {w w' : World} (h : Ext S o o' w w') {k : Nat} (hk : k ∉ S) : Stays (Of o k) (Of o' k) w w' :=
  ⟨h.size, fun b hb hl => ⟨(h.own b hl).trans hb, h.keep b hl (by rw [show o b = k from hb]; exact hk)⟩⟩

/-! Lists of things that lie in cells, sz cells each -/

def Elems {α : Type} (sz : Nat) (R : α → List Value → Prop) : List α → List Value → Prop
  | [], xs => xs = []
  | a :: as, xs => sz ≤ xs.length ∧ R a (xs.take sz) ∧ Elems sz R as (xs.drop sz)

section
variable {α : Type} {sz : Nat} {R R' : α → List Value → Prop}
theorem Elems.length : ∀ {as : List α} {xs : List Value}, Elems sz R as xs → xs.length = as.length * sz
  | [], xs, h => by simp [Elems] at h; simp [h]
  | a :: as, xs, h => by
    have := Elems.length h.2.2
    simp only [List.length_drop, List.length_cons, Nat.add_mul, Nat.one_mul] at this ⊢
    have := h.1; omega
theorem Elems.imp : ∀ {as : List α} {xs : List Value}, Elems sz R as xs → (∀ a cs, R a cs → R' a cs) → Elems sz R' as xs
  | [], _, h, _ => h
  | _ :: _, _, h, hi => ⟨h.1, hi _ _ h.2.1, h.2.2.imp hi⟩
theorem Elems.get : ∀ {as : List α} {xs : List Value}, Elems sz R as xs → ∀ (i : Nat) (hi : i < as.length), R as[i] ((xs.drop (i * sz)).take sz)
  | a :: as, xs, h, 0, _ => by simpa using h.2.1
  | a :: as, xs, h, i + 1, hi => by
    have := h.2.2.get i (by simpa using hi)
    simpa [List.drop_drop, Nat.add_mul, Nat.add_comm, Nat.add_left_comm] using this
theorem Elems.append : ∀ {as bs : List α} {xs ys : List Value}, Elems sz R as xs → Elems sz R bs ys → Elems sz R (as ++ bs) (xs ++ ys)
  | [], bs, xs, ys, h, k => by simp [Elems] at h; subst h; simpa using k
  | a :: as, bs, xs, ys, h, k => by
    refine ⟨by have := h.1; simp; omega, ?_, ?_⟩
    · rw [List.take_append_of_le_length h.1]; exact h.2.1
    · rw [List.drop_append_of_le_length h.1]; exact h.2.2.append k
theorem Elems.drop : ∀ {as : List α} {xs : List Value}, Elems sz R as xs → ∀ k, Elems sz R (as.drop k) (xs.drop (k * sz))
  | as, xs, h, 0 => by simpa using h
  | [], xs, h, k + 1 => by simp [Elems] at h; subst h; simp [Elems]
  | a :: as, xs, h, k + 1 => by
    have := h.2.2.drop k
    simpa [List.drop_drop, Nat.add_mul, Nat.add_comm, Nat.add_left_comm] using this
theorem Elems.take : ∀ {as : List α} {xs : List Value}, Elems sz R as xs → ∀ k, Elems sz R (as.take k) (xs.take (k * sz))
  | as, xs, h, 0 => by simp [Elems]
  | [], xs, h, k + 1 => by simp [Elems] at h; subst h; simp [Elems]
  | a :: as, xs, h, k + 1 => by
    have h2 := h.2.2.take k
    have hl := h.1
    rw [List.take_succ_cons]
    refine ⟨by simp [Nat.add_mul]; omega, ?_, ?_⟩
    · rw [List.take_take, Nat.min_eq_left (by simp [Nat.add_mul])]; exact h.2.1
    · rw [List.drop_take]; simpa [Nat.add_mul] using h2
theorem Elems.one {a : α} {cs : List Value} (hl : cs.length = sz) (h : R a cs) : Elems sz R [a] cs :=
  ⟨by omega, by rw [List.take_of_length_le (by omega)]; exact h, by show List.drop sz cs = []; rw [List.drop_eq_nil_iff]; omega⟩
theorem Elems.set : ∀ {as : List α} {xs : List Value}, Elems sz R as xs → ∀ (i : Nat) (a : α) (cs : List Value), i < as.length → cs.length = sz → R a cs →
    Elems sz R (as.set i a) (xs.take (i * sz) ++ cs ++ xs.drop ((i + 1) * sz))
  | x :: as, xs, h, 0, a, cs, _, hl, hR => by
    refine ⟨by simp; omega, ?_, ?_⟩
    · simp [← hl]; exact hR
    · have := h.2.2
      simp [← hl]; simpa [hl] using this
  | x :: as, xs, h, i + 1, a, cs, hi, hl, hR => by
    have hlen := h.length
    have := h.2.2.set i a cs (by simpa using hi) hl hR
    have h1 := h.1
    refine ⟨by simp [Nat.add_mul] at *; omega, ?_, ?_⟩
    · rw [List.append_assoc, List.take_append_of_le_length (by simp [Nat.add_mul]; omega), List.take_take, Nat.min_eq_left (by simp [Nat.add_mul])]
      exact h.2.1
    · rw [List.append_assoc, List.drop_append_of_le_length (by simp [Nat.add_mul]; omega), List.drop_take, ← List.append_assoc]
      have e1 : (i + 1) * sz - sz = i * sz := by simp [Nat.add_mul]
      have e2 : (i + 1 + 1) * sz = sz + (i + 1) * sz := by simp [Nat.add_mul]; omega
      rw [e1, e2, ← List.drop_drop]
      exact this
end

/-- A slice value that reads as a list, sz cells a thing. -/
def SliceOf {α : Type} (sz : Nat) (R : α → List Value → Prop) (B : Nat → Prop) (w : World) (v : Value) (as : List α) : Prop :=
  ∃ A c xs, v = .slice A as.length c ∧ as.length ≤ c ∧ Elems sz R as xs ∧
    (0 < as.length → ∃ g off, A = some ⟨g, off, none⟩ ∧ B g ∧ g < w.heap.size ∧ ∀ j u, xs[j]? = some u → w.cell? ⟨g, off + j, none⟩ = some u)

section
variable {α : Type} {sz : Nat} {R R' : α → List Value → Prop} {B B' : Nat → Prop} {w w' : World} {v : Value} {as : List α}
theorem SliceOf.nil_ : SliceOf sz R B w (.slice none 0 0) [] := ⟨none, 0, [], rfl, Nat.le_refl _, rfl, fun h => absurd h (by simp)⟩
theorem SliceOf.empty (A : Option Addr) (c : Nat) : SliceOf sz R B w (.slice A 0 c) [] := ⟨A, c, [], rfl, by simp, rfl, fun h => absurd h (by simp)⟩
theorem SliceOf.stays (h : SliceOf sz R B w v as) (hs : Stays B B' w w') (hR : ∀ a cs, R a cs → R' a cs) : SliceOf sz R' B' w' v as := by
  obtain ⟨A, c, xs, rfl, hc, he, hm⟩ := h
  refine ⟨A, c, xs, rfl, hc, he.imp hR, fun hp => ?_⟩
  obtain ⟨g, off, hA, hB, hl, hx⟩ := hm hp
  exact ⟨g, off, hA, (hs.block g hB hl).1, Nat.lt_of_lt_of_le hl hs.size, fun j u hu => (hs.cell (p := ⟨g, off + j, none⟩) hB hl).trans (hx j u hu)⟩
theorem SliceOf.imp (h : SliceOf sz R B w v as) (hB : ∀ b, B b → b < w.heap.size → B' b) (hR : ∀ a cs, R a cs → R' a cs) : SliceOf sz R' B' w v as :=
  h.stays ⟨Nat.le_refl _, fun b hb hl => ⟨hB b hb hl, rfl⟩⟩ hR
theorem SliceOf.form (h : SliceOf sz R B w v as) : ∃ A c, v = .slice A as.length c ∧ as.length ≤ c := by
  obtain ⟨A, c, xs, rfl, hc, _⟩ := h
  exact ⟨A, c, rfl, hc⟩
/-- One thing in a block known whole. -/
theorem SliceOf.one {g : Nat} {E : TypeId} {cs : List Value} {a : α} (hb : Blk w g E cs) (hg : B g) (hl : cs.length = sz) (hR : R a cs) : SliceOf sz R B w (.slice (some ⟨g, 0, none⟩) 1 1) [a] :=
  ⟨_, 1, cs, rfl, Nat.le_refl _, Elems.one hl hR, fun _ => ⟨g, 0, rfl, hg, hb.lt, fun j u hu => by rw [Nat.zero_add, hb.cell, hu]⟩⟩
/-- The cells of the i-th thing. -/
theorem SliceOf.at_ {A : Option Addr} {n c : Nat} (h : SliceOf sz R B w (.slice A n c) as) (i : Nat) (hi : i < as.length) :
    ∃ g off cs, A = some ⟨g, off, none⟩ ∧ B g ∧ g < w.heap.size ∧ R as[i] cs ∧ cs.length = sz ∧ ∀ j u, cs[j]? = some u → w.cell? ⟨g, off + i * sz + j, none⟩ = some u := by
  obtain ⟨A', c', xs, he, hc, hel, hm⟩ := h
  injection he with h1 h2 h3
  subst h1
  obtain ⟨g, off, hA, hB, hl, hx⟩ := hm (by omega)
  refine ⟨g, off, _, hA, hB, hl, hel.get i hi, ?_, fun j u hu => ?_⟩
  · have := hel.length
    have h2 : i * sz + sz ≤ as.length * sz := by rw [← Nat.succ_mul]; exact Nat.mul_le_mul_right _ hi
    simp only [List.length_take, List.length_drop]; omega
  · rw [List.getElem?_take] at hu
    split at hu
    · rw [List.getElem?_drop] at hu
      rw [Nat.add_assoc]
      exact hx _ _ hu
    · cases hu
theorem SliceOf.len {A : Option Addr} {n c : Nat} (h : SliceOf sz R B w (.slice A n c) as) : n = as.length ∧ n ≤ c := by
  obtain ⟨A', c', xs, he, hc, _⟩ := h
  injection he with h1 h2 h3
  exact ⟨h2, by omega⟩
theorem SliceOf.cut {A : Option Addr} {n c : Nat} (h : SliceOf sz R B w (.slice A n c) as) {k : Nat} (hk : k ≤ n) :
    SliceOf sz R B w (.slice (if c = k then A else A.map (·.add (k * sz))) (n - k) (c - k)) (as.drop k) := by
  obtain ⟨A', c', xs, he, hc, hel, hm⟩ := h
  injection he with h1 h2 h3
  subst h1; subst h2; subst h3
  refine ⟨_, c - k, xs.drop (k * sz), by rw [List.length_drop], by rw [List.length_drop]; omega, hel.drop k, fun hp => ?_⟩
  rw [List.length_drop] at hp
  obtain ⟨g, off, rfl, hB, hl, hx⟩ := hm (by omega)
  rw [if_neg (by omega)]
  refine ⟨g, off + k * sz, ?_, hB, hl, fun j u hu => ?_⟩
  · simp only [Option.map_some, Addr.add]
    split
    · rename_i h0; simp [h0]
    · rfl
  · rw [List.getElem?_drop] at hu
    rw [Nat.add_assoc]
    exact hx _ _ hu
theorem SliceOf.take_ {A : Option Addr} {n c : Nat} (h : SliceOf sz R B w (.slice A n c) as) {k c' : Nat} (hk : k ≤ n) (hc' : k ≤ c') :
    SliceOf sz R B w (.slice A k c') (as.take k) := by
  obtain ⟨A', c0, xs, he, hc, hel, hm⟩ := h
  injection he with h1 h2 h3
  subst h1; subst h2; subst h3
  have hl0 : (as.take k).length = k := by rw [List.length_take]; omega
  refine ⟨_, c', xs.take (k * sz), by rw [hl0], by omega, hel.take k, fun hp => ?_⟩
  obtain ⟨g, off, rfl, hB, hl, hx⟩ := hm (by omega)
  refine ⟨g, off, rfl, hB, hl, fun j u hu => ?_⟩
  rw [List.getElem?_take] at hu
  split at hu
  · exact hx _ _ hu
  · cases hu
end

/-- A row of owner k that may be appended to. -/
def RowOf {α : Type} (sz : Nat) (R : α → List Value → Prop) (E : TypeId) (o : Own) (k : Nat) (w : World) (v : Value) (as : List α) : Prop :=
  ∃ A c xs, v = .slice A as.length c ∧ as.length ≤ c ∧ c ≤ maxLen ∧ Elems sz R as xs ∧
    (0 < c → ∃ g cur, A = some ⟨g, 0, none⟩ ∧ o g = k ∧ w.heap[g]? = some (.cells cur E (0, 0)) ∧ c * sz ≤ cur.size ∧ cur.toList.take (as.length * sz) = xs)

section
variable {α : Type} {sz : Nat} {R R' : α → List Value → Prop} {E : TypeId} {o o' : Own} {k : Nat} {w w' : World} {v : Value} {as : List α}
theorem RowOf.nil_ : RowOf sz R E o k w (.slice none 0 0) [] := ⟨none, 0, [], rfl, Nat.le_refl _, by simp, rfl, fun h => absurd h (by simp)⟩
theorem RowOf.empty (A : Option Addr) : RowOf sz R E o k w (.slice A 0 0) [] := ⟨A, 0, [], rfl, Nat.le_refl _, by simp, rfl, fun h => absurd h (by simp)⟩
theorem RowOf.slice (h : RowOf sz R E o k w v as) : SliceOf sz R (Of o k) w v as := by
  obtain ⟨A, c, xs, rfl, hc, _, he, hm⟩ := h
  refine ⟨A, c, xs, rfl, hc, he, fun hp => ?_⟩
  obtain ⟨g, cur, hA, ho, hg, hs, ht⟩ := hm (by omega)
  refine ⟨g, 0, hA, ho, (Array.getElem?_eq_some_iff.1 hg).1, fun j u hu => ?_⟩
  rw [Nat.zero_add, cell_of_row w g j cur E (0, 0) hg]
  rw [← ht, List.getElem?_take] at hu
  split at hu
  · simpa using hu
  · cases hu
theorem RowOf.stays {k' : Nat} (h : RowOf sz R E o k w v as) (hs : Stays (Of o k) (Of o' k') w w') (hR : ∀ a cs, R a cs → R' a cs) : RowOf sz R' E o' k' w' v as := by
  obtain ⟨A, c, xs, rfl, hc, hm, he, hp⟩ := h
  refine ⟨A, c, xs, rfl, hc, hm, he.imp hR, fun h0 => ?_⟩
  obtain ⟨g, cur, hA, ho, hg, hsz, ht⟩ := hp h0
  have hb := hs.block g ho (Array.getElem?_eq_some_iff.1 hg).1
  exact ⟨g, cur, hA, hb.1, hb.2.trans hg, hsz, ht⟩
theorem RowOf.form (h : RowOf sz R E o k w v as) : ∃ A c, v = .slice A as.length c ∧ as.length ≤ c ∧ c ≤ maxLen := by
  obtain ⟨A, c, xs, rfl, hc, hm, _⟩ := h
  exact ⟨A, c, rfl, hc, hm⟩
/-- The first ones, no room behind them ('s[:k:k]'; 'slices.Clip'). -/
theorem RowOf.clip {A : Option Addr} {n c : Nat} (h : RowOf sz R E o k w (.slice A n c) as) {m : Nat} (hm : m ≤ n) : RowOf sz R E o k w (.slice A m m) (as.take m) := by
  obtain ⟨A', c0, xs, he, hc, hmx, hel, hp⟩ := h
  injection he with h1 h2 h3
  subst h1; subst h2; subst h3
  have hl0 : (as.take m).length = m := by rw [List.length_take]; omega
  refine ⟨_, m, xs.take (m * sz), by rw [hl0], by omega, by omega, hel.take m, fun h0 => ?_⟩
  obtain ⟨g, cur, rfl, ho, hg, hsz, ht⟩ := hp (by omega)
  refine ⟨g, cur, rfl, ho, hg, Nat.le_trans (Nat.mul_le_mul_right _ (by omega)) hsz, ?_⟩
  rw [hl0, ← ht, List.take_take, Nat.min_eq_left (Nat.mul_le_mul_right _ (by omega))]
end

/-! append -/

/-- blocks of other kinds of elements stay -/
def Others (E : TypeId) (w w' : World) : Prop := ∀ g t cs, Blk w g t cs → t ≠ E → Blk w' g t cs

section
variable {P : Program} {α : Type} {sz : Nat} {R R' : α → List Value → Prop} {E : TypeId} {o : Own} {k : Nat} {w : World} {v x : Value} {as bs : List α} {B : Nat → Prop}

theorem zero_elems {xs : List Value} (h : Elems sz R as xs) (h0 : as.length = 0) : as = [] ∧ xs = [] := by
  have := List.eq_nil_of_length_eq_zero h0
  subst this
  exact ⟨rfl, h⟩

/-- append of what reads as a list, onto a row: in place or to a new block, a row of the same owner again. -/
theorem append_row (t ty : TypeId) (i : TypeInfo) (z : Value) (bytes : Nat) (ht : P.underlying t = some (.slice E)) (hi : P.info? E = some i) (hz : i.zero = some z)
    (hsize : i.size = sz) (hby : i.bytes = bytes) (hzs : z.cells.size = sz)
    (hv : RowOf sz R E o k w v as) (hx : SliceOf sz R B w x bs) (h1 : ∀ a cs, R a cs → ∀ u ∈ cs, u.oneCell' = true)
    (hbytes : (as.length + bs.length) * bytes ≤ 140737488355328) (hlen : as.length + bs.length ≤ 1099511627776)
    (hR : ∀ (o' : Own) (w' : World), Ext [k] o o' w w' → ∀ a cs, R a cs → R' a cs) :
    ∃ v' w' o', (Builtin.append_ #[t, t] ty #[v, x]).run P w = .ok v' w' ∧ RowOf sz R' E o' k w' v' (as ++ bs) ∧ Ext [k] o o' w w' ∧ Others E w w' := by
  obtain ⟨A, c, xs, rfl, hc, hcm, hel, hm⟩ := hv
  obtain ⟨A2, c2, ys, rfl, hc2, hel2, hm2⟩ := hx
  have hly := hel2.length
  have hlx := hel.length
  have hones : ∀ u ∈ ys, u.oneCell' = true := by
    have : ∀ (bs : List α) (ys : List Value), Elems sz R bs ys → ∀ u ∈ ys, u.oneCell' = true := by
      intro bs
      induction bs with
      | nil => intro ys h u hu; simp [Elems] at h; subst h; simp at hu
      | cons b bs ih =>
        intro ys h u hu
        rw [← List.take_append_drop sz ys] at hu
        rcases List.mem_append.1 hu with hu | hu
        · exact h1 _ _ h.2.1 u hu
        · exact ih _ h.2.2 u hu
    exact this bs ys hel2
  by_cases hb0 : bs.length = 0
  · obtain ⟨rfl, rfl⟩ := zero_elems hel2 hb0
    refine ⟨.slice A as.length c, w, o, ?_, ⟨A, c, xs, by simp, by simpa using hc, hcm, by simpa using hel.imp (hR o w (Ext.refl _ _ _)), by simpa using hm⟩, Ext.refl _ _ _, fun _ _ _ h _ => h⟩
    have : as.length + 0 ≤ c := by omega
    rcases A2 with _ | ad
    · rcases A with _ | a
      · simp [Builtin.append_, run_underlying ht, sizeOf, typeInfo, hi, Builtin.lenOf, hc, Builtin.firstCells]
      · simp [Builtin.append_, run_underlying ht, sizeOf, typeInfo, hi, Builtin.lenOf, hc, Builtin.firstCells, storeCells]
    · rcases A with _ | a
      · simp [Builtin.append_, run_underlying ht, sizeOf, typeInfo, hi, Builtin.lenOf, hc, Builtin.firstCells, loadCells, loadCellsFrom]
      · simp [Builtin.append_, run_underlying ht, sizeOf, typeInfo, hi, Builtin.lenOf, hc, Builtin.firstCells, storeCells, loadCells, loadCellsFrom]
  · obtain ⟨g2, off2, rfl, hB2, hg2, hcell2⟩ := hm2 (by omega)
    have hcell2' : ∀ j u, ys[j]? = some u → w.cell? ((⟨g2, off2, none⟩ : Addr).add j) = some u := by
      intro j u hu
      have := hcell2 j u hu
      unfold Addr.add
      split
      · rename_i h0; subst h0; simpa using this
      · exact this
    have grown : ∀ (old : Nat), old < as.length + bs.length →
        ∃ o', RowOf sz R' E o' k (w.drew.alloc (.cells (xs.toArray ++ ys.toArray ++ Builtin.zeroCells z.cells (grownCap w (as.length + bs.length) old E - (as.length + bs.length))) E)) (.slice (some ⟨w.heap.size, 0, none⟩) (as.length + bs.length) (grownCap w (as.length + bs.length) old E)) (as ++ bs) ∧
          Ext [k] o o' w (w.drew.alloc (.cells (xs.toArray ++ ys.toArray ++ Builtin.zeroCells z.cells (grownCap w (as.length + bs.length) old E - (as.length + bs.length))) E)) ∧
          Others E w (w.drew.alloc (.cells (xs.toArray ++ ys.toArray ++ Builtin.zeroCells z.cells (grownCap w (as.length + bs.length) old E - (as.length + bs.length))) E)) := by
      intro old ho
      have hge := grownCap_ge w (as.length + bs.length) old E
      have hcm' := grownCap_le_maxLen w (as.length + bs.length) old E (by simp only [maxLen]; omega)
      have hext : Ext [k] o (upd o w.heap.size k) w (w.drew.alloc (.cells (xs.toArray ++ ys.toArray ++ Builtin.zeroCells z.cells (grownCap w (as.length + bs.length) old E - (as.length + bs.length))) E)) :=
        (((Ext.refl [k] o w).drew).alloc _).give (Nat.le_refl _) (by simp)
      refine ⟨upd o w.heap.size k, ⟨_, _, xs ++ ys, by rw [List.length_append], by rw [List.length_append]; exact hge, hcm', (hel.append hel2).imp (hR _ _ hext), fun _ => ⟨w.heap.size, _, rfl, upd_same _ _ _, heap_alloc_new w.drew _, ?_, ?_⟩⟩, hext, fun _ _ _ h _ => h.drew.alloc _⟩
      · simp only [Array.size_append, List.size_toArray, size_zeroCells, hzs, hlx, hly, ← Nat.add_mul]
        exact Nat.mul_le_mul_right _ (by omega)
      · simp only [Array.toList_append, List.append_assoc, List.length_append]
        rw [← List.append_assoc, Nat.add_mul, ← hlx, ← hly, ← List.length_append]
        exact List.take_left
    by_cases hroom : as.length + bs.length ≤ c
    · obtain ⟨g, cur, rfl, hog, hg, hcs, htake⟩ := hm (by omega)
      have hfit : as.length * i.size + ys.length ≤ cur.size := by rw [hsize, hly, ← Nat.add_mul]; exact Nat.le_trans (Nat.mul_le_mul_right _ hroom) hcs
      have hr := run_append_room (P := P) w t ty E i ht hi g as.length c cur hg ⟨g2, off2, none⟩ bs.length c2 ys (by rw [hsize]; exact hly) hcell2' hones hroom hfit
      have hext : Ext [k] o o w (w.setRow g (cur.toList.take (as.length * i.size) ++ ys ++ cur.toList.drop (as.length * i.size + ys.length)).toArray) :=
        ⟨rfl, rfl, rfl, by simp [World.setRow], fun _ _ => rfl, fun hw b hb => hw b (by simpa [World.setRow] using hb), fun b hb hn => setRow_other w g b _ (by rintro rfl; exact hn (by simp [hog]))⟩
      refine ⟨_, _, o, hr, ⟨_, _, xs ++ ys, by rw [List.length_append], by rw [List.length_append]; exact hroom, hcm, (hel.append hel2).imp (hR _ _ hext), fun _ => ⟨g, _, rfl, hog, setRow_heap w g cur _ E _ hg, ?_, ?_⟩⟩, hext, fun g' t' cs' hb' ht' => hb'.same (setRow_other w g g' _ (Blk.ne_ hb' (show Blk w g E cur.toList by unfold Blk; simpa using hg) ht'))⟩
      · simp only [List.size_toArray, List.length_append, List.length_take, List.length_drop, Array.length_toList]
        rw [hsize] at hfit ⊢
        omega
      · rw [hsize, htake, List.length_append, Nat.add_mul, ← hlx, ← hly, ← List.length_append]
        exact List.take_left
    · obtain ⟨o', hrow, hext, hoth⟩ := grown c (by omega)
      by_cases hc0 : c = 0
      · subst hc0
        have h0 : as.length = 0 := by omega
        obtain ⟨rfl, rfl⟩ := zero_elems hel h0
        simp only [List.length_nil, Nat.zero_add, List.nil_append, Array.empty_append] at hrow hext hoth hbytes hlen ⊢
        rcases A with _ | a
        · exact ⟨_, _, o', run_append_nil (P := P) w t ty E i z ht hi hz ⟨g2, off2, none⟩ bs.length c2 ys (by rw [hsize]; exact hly) hcell2' (by omega) (by omega) (by rw [hby]; omega), hrow, hext, hoth⟩
        · have hr := run_append_grow (P := P) w t ty E i z ht hi hz a 0 0 [] (by simp) (by intro j u hu; simp at hu) ⟨g2, off2, none⟩ bs.length c2 ys (by rw [hsize]; exact hly) hcell2' (by omega) (by omega) (growslice_fits (by omega) (by rw [hby]; simpa using hbytes))
          simp only [Nat.zero_add, Array.empty_append] at hr
          exact ⟨_, _, o', hr, hrow, hext, hoth⟩
      · obtain ⟨g, cur, rfl, hog, hg, hcs, htake⟩ := hm (by omega)
        have holds : ∀ j u, xs[j]? = some u → w.cell? ((⟨g, 0, none⟩ : Addr).add j) = some u := by
          intro j u hu
          have hadd : (⟨g, 0, none⟩ : Addr).add j = ⟨g, j, none⟩ := by unfold Addr.add; split <;> simp_all
          rw [hadd, cell_of_row w g j cur E (0, 0) hg]
          rw [← htake, List.getElem?_take] at hu
          split at hu
          · simpa using hu
          · cases hu
        have hr := run_append_grow (P := P) w t ty E i z ht hi hz ⟨g, 0, none⟩ as.length c xs (by rw [hsize]; exact hlx) holds ⟨g2, off2, none⟩ bs.length c2 ys (by rw [hsize]; exact hly) hcell2' (by omega) (by omega) (growslice_fits (by omega) (by rw [hby]; exact hbytes))
        exact ⟨_, _, o', hr, hrow, hext, hoth⟩
end
end Go.Proofs.Ytibkmhacpodceaa

/- How the model's things lie in memory. -/
namespace Go.Proofs.Ytibkmhacpodceaa
open Go.RowKit

def IntR (n : Int) (cs : List Value) : Prop := cs = [.int .i64 n]
def ByteR (n : Int) (cs : List Value) : Prop := cs = [.int .u8 n] ∧ 0 ≤ n ∧ n < 256
abbrev IntsAt (B : Nat → Prop) (w : World) (v : Value) (l : List Int) : Prop := SliceOf 1 IntR B w v l
abbrev BytesAt (B : Nat → Prop) (w : World) (v : Value) (l : List Int) : Prop := SliceOf 1 ByteR B w v l

def EntR (B : Nat → Prop) (w : World) (e : Ent) (cs : List Value) : Prop :=
  ∃ A n c, cs = [.int .i64 e.index, .int .i64 e.term, .int .i64 e.kind, .slice A n c] ∧ BytesAt B w (.slice A n c) e.data
abbrev EntsAt (B B2 : Nat → Prop) (w : World) (v : Value) (l : List Ent) : Prop := SliceOf 4 (EntR B2 w) B w v l

def MsgR (B : Nat → Prop) (w : World) (m : Msg) (cs : List Value) : Prop :=
  ∃ A n c A2 n2 c2 A3 n3 c3, cs = [.int .i64 m.kind, .int .i64 m.group, .int .i64 m.from_, .int .i64 m.to_, .int .i64 m.term, .int .i64 m.index, .int .i64 m.logTerm, .int .i64 m.commit, .bool m.ok,
      .slice A n c, .slice A2 n2 c2, .slice A3 n3 c3] ∧
    EntsAt B B w (.slice A n c) m.entries ∧ IntsAt B w (.slice A2 n2 c2) m.members ∧ BytesAt B w (.slice A3 n3 c3) m.data

section
variable {B B' B2 B2' : Nat → Prop} {w w' : World}
theorem IntsAt.stays {v : Value} {l : List Int} (h : IntsAt B w v l) (hs : Stays B B' w w') : IntsAt B' w' v l := SliceOf.stays h hs fun _ _ h => h
theorem BytesAt.stays {v : Value} {l : List Int} (h : BytesAt B w v l) (hs : Stays B B' w w') : BytesAt B' w' v l := SliceOf.stays h hs fun _ _ h => h
theorem EntR.stays {e : Ent} {cs : List Value} (hs : Stays B B' w w') (h : EntR B w e cs) : EntR B' w' e cs := by
  obtain ⟨A, n, c, rfl, hb⟩ := h
  exact ⟨A, n, c, rfl, BytesAt.stays hb hs⟩
theorem EntsAt.stays {v : Value} {l : List Ent} (h : EntsAt B B2 w v l) (hs : Stays B B' w w') (hs2 : Stays B2 B2' w w') : EntsAt B' B2' w' v l :=
  SliceOf.stays h hs fun _ _ => EntR.stays hs2
theorem MsgR.stays {m : Msg} {cs : List Value} (hs : Stays B B' w w') (h : MsgR B w m cs) : MsgR B' w' m cs := by
  obtain ⟨A, n, c, A2, n2, c2, A3, n3, c3, rfl, h1, h2, h3⟩ := h
  exact ⟨A, n, c, A2, n2, c2, A3, n3, c3, rfl, EntsAt.stays h1 hs hs, IntsAt.stays h2 hs, BytesAt.stays h3 hs⟩

theorem IntR.ones {n : Int} {cs : List Value} (h : IntR n cs) : ∀ u ∈ cs, u.oneCell' = true := by rw [h]; simp [Value.oneCell']
theorem ByteR.ones {n : Int} {cs : List Value} (h : ByteR n cs) : ∀ u ∈ cs, u.oneCell' = true := by rw [h.1]; simp [Value.oneCell']
theorem EntR.ones {e : Ent} {cs : List Value} (h : EntR B w e cs) : ∀ u ∈ cs, u.oneCell' = true := by
  obtain ⟨A, n, c, rfl, _⟩ := h; simp [Value.oneCell']
theorem MsgR.ones {e : Msg} {cs : List Value} (h : MsgR B w e cs) : ∀ u ∈ cs, u.oneCell' = true := by
  obtain ⟨A, n, c, A2, n2, c2, A3, n3, c3, rfl, _⟩ := h; simp [Value.oneCell']

theorem IntsAt.at_ {A : Option Addr} {n c : Nat} {l : List Int} (h : IntsAt B w (.slice A n c) l) (i : Nat) (hi : i < l.length) :
    ∃ g off, A = some ⟨g, off, none⟩ ∧ g < w.heap.size ∧ w.cell? ⟨g, off + i, none⟩ = some (.int .i64 l[i]) := by
  obtain ⟨g, off, cs, rfl, _, hg, hR, _, hc⟩ := SliceOf.at_ h i hi
  rw [hR] at hc
  exact ⟨g, off, rfl, hg, by simpa using hc 0 _ rfl⟩
theorem BytesAt.at_ {A : Option Addr} {n c : Nat} {l : List Int} (h : BytesAt B w (.slice A n c) l) (i : Nat) (hi : i < l.length) :
    ∃ g off, A = some ⟨g, off, none⟩ ∧ g < w.heap.size ∧ w.cell? ⟨g, off + i, none⟩ = some (.int .u8 l[i]) ∧ 0 ≤ l[i] ∧ l[i] < 256 := by
  obtain ⟨g, off, cs, rfl, _, hg, hR, _, hc⟩ := SliceOf.at_ h i hi
  rw [hR.1] at hc
  exact ⟨g, off, rfl, hg, by simpa using hc 0 _ rfl, hR.2.1, hR.2.2⟩
theorem EntsAt.at_ {A : Option Addr} {n c : Nat} {l : List Ent} (h : EntsAt B B2 w (.slice A n c) l) (i : Nat) (hi : i < l.length) :
    ∃ g off A' n' c', A = some ⟨g, off, none⟩ ∧ g < w.heap.size ∧ w.cell? ⟨g, off + i * 4, none⟩ = some (.int .i64 l[i].index) ∧ w.cell? ⟨g, off + i * 4 + 1, none⟩ = some (.int .i64 l[i].term) ∧
      w.cell? ⟨g, off + i * 4 + 2, none⟩ = some (.int .i64 l[i].kind) ∧ w.cell? ⟨g, off + i * 4 + 3, none⟩ = some (.slice A' n' c') ∧ BytesAt B2 w (.slice A' n' c') l[i].data := by
  obtain ⟨g, off, cs, rfl, _, hg, hR, _, hc⟩ := SliceOf.at_ h i hi
  obtain ⟨A', n', c', rfl, hb⟩ := hR
  exact ⟨g, off, A', n', c', rfl, hg, by simpa using hc 0 _ rfl, by simpa using hc 1 _ rfl, by simpa using hc 2 _ rfl, by simpa using hc 3 _ rfl, hb⟩
end

theorem EntsAt.at? {B B2 : Nat → Prop} {w : World} {A : Option Addr} {n c : Nat} {l : List Ent} {x : Ent} (h : EntsAt B B2 w (.slice A n c) l) {i : Nat} (hx : l[i]? = some x) :
    ∃ g off A' n' c', A = some ⟨g, off, none⟩ ∧ g < w.heap.size ∧ w.cell? ⟨g, off + i * 4, none⟩ = some (.int .i64 x.index) ∧ w.cell? ⟨g, off + i * 4 + 1, none⟩ = some (.int .i64 x.term) ∧
      w.cell? ⟨g, off + i * 4 + 2, none⟩ = some (.int .i64 x.kind) ∧ w.cell? ⟨g, off + i * 4 + 3, none⟩ = some (.slice A' n' c') ∧ BytesAt B2 w (.slice A' n' c') x.data := by
  obtain ⟨hi, rfl⟩ := List.getElem?_eq_some_iff.1 hx
  exact EntsAt.at_ h i hi
theorem IntsAt.at? {B : Nat → Prop} {w : World} {A : Option Addr} {n c : Nat} {l : List Int} {x : Int} (h : IntsAt B w (.slice A n c) l) {i : Nat} (hx : l[i]? = some x) :
    ∃ g off, A = some ⟨g, off, none⟩ ∧ g < w.heap.size ∧ w.cell? ⟨g, off + i, none⟩ = some (.int .i64 x) := by
  obtain ⟨hi, rfl⟩ := List.getElem?_eq_some_iff.1 hx
  exact IntsAt.at_ h i hi

/-! A log, a node -/

def logCells (L : LogM) (mv ev : Value) : List Value := [.int .i64 L.sI, .int .i64 L.sT, mv, ev, .int .i64 L.commit]

def LogAt (o : Own) (kl : Nat) (w : World) (b : Nat) (L : LogM) : Prop :=
  ∃ A n c A2 n2 c2, Blk w b 70 (logCells L (.slice A n c) (.slice A2 n2 c2)) ∧ o b = kl ∧ IntsAt (Of o 0) w (.slice A n c) L.sM ∧ RowOf 4 (EntR (Of o 0) w) 63 o kl w (.slice A2 n2 c2) L.ents

theorem LogAt.ext {S : List Nat} {o o' : Own} {kl : Nat} {w w' : World} {b : Nat} {L : LogM} (h : LogAt o kl w b L) (he : Ext S o o' w w') (hk : kl ∉ S) (h0 : 0 ∉ S) : LogAt o' kl w' b L := by
  obtain ⟨A, n, c, A2, n2, c2, hb, ho, hm, hr⟩ := h
  exact ⟨A, n, c, A2, n2, c2, he.blk hb (by rw [ho]; exact hk), (he.own b hb.lt).trans ho, IntsAt.stays hm (he.stays h0), hr.stays (he.stays hk) fun _ _ => EntR.stays (he.stays h0)⟩

/-- bounds of what a log holds -/
structure Ent.Ok (e : Ent) : Prop where
  i0 : 0 ≤ e.index
  i1 : e.index ≤ 60000
  t0 : 0 ≤ e.term
  t1 : e.term ≤ 30000
  k0 : 0 ≤ e.kind
  k1 : e.kind ≤ 3
  d : e.data.length ≤ 100

structure LogM.Ok (L : LogM) : Prop where
  i0 : 0 ≤ L.sI
  i1 : L.sI ≤ 30000
  t0 : 0 ≤ L.sT
  t1 : L.sT ≤ 30000
  len : L.ents.length ≤ 20000
  c0 : L.sI ≤ L.commit
  c1 : L.commit ≤ L.sI + L.ents.length
  mem : ∀ n, n ∈ L.sM → 1 ≤ n ∧ n ≤ 5
  mlen : L.sM.length ≤ 5
  ent : ∀ (i : Nat) (h : i < L.ents.length), L.ents[i].Ok ∧ L.ents[i].index = L.sI + 1 + i

def raftCells (r : RaftM) (lb : Nat) (sv ov : Value) : List Value :=
  [.int .i64 r.group, .int .i64 r.id, .int .i64 r.term, .int .i64 r.vote, .pointer (some ⟨lb, 0, none⟩), sv, .int .i64 r.role, .int .i64 r.leader, .int .i64 r.elapsed] ++
    (r.votes.map Value.bool ++ (r.others.flatMap fun p => [.int .i64 p.1, .int .i64 p.2]) ++ [ov])

def RaftAt (o : Own) (kr kl : Nat) (w : World) (b : Nat) (r : RaftM) : Prop :=
  ∃ lb A n c A2 n2 c2, Blk w b 79 (raftCells r lb (.slice A n c) (.slice A2 n2 c2)) ∧ o b = kr ∧ LogAt o kl w lb r.log ∧ BytesAt (Of o 0) w (.slice A n c) r.state ∧
    RowOf 12 (MsgR (Of o 0) w) 48 o kr w (.slice A2 n2 c2) r.out ∧ r.votes.length = 6 ∧ r.others.length = 6

theorem RaftAt.ext {S : List Nat} {o o' : Own} {kr kl : Nat} {w w' : World} {b : Nat} {r : RaftM} (h : RaftAt o kr kl w b r) (he : Ext S o o' w w') (hk : kr ∉ S) (hl : kl ∉ S) (h0 : 0 ∉ S) : RaftAt o' kr kl w' b r := by
  obtain ⟨lb, A, n, c, A2, n2, c2, hb, ho, hL, hs, hr, h6, h7⟩ := h
  exact ⟨lb, A, n, c, A2, n2, c2, he.blk hb (by rw [ho]; exact hk), (he.own b hb.lt).trans ho, hL.ext he hl h0, BytesAt.stays hs (he.stays h0), hr.stays (he.stays hk) fun _ _ => MsgR.stays (he.stays h0), h6, h7⟩
end Go.Proofs.Ytibkmhacpodceaa
