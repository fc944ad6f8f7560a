/- The world in memory: what an event does to it. -/
import Derived.Test.YtibkmhacpodceaaW41
import Derived.Test.YtibkmhacpodceaaAnyT
import Derived.Deep.WholeRow
namespace Go.Proofs.Ytibkmhacpodceaa
open Go.RowKit

/-- WorldAt, opened -/
structure WorldIn (o : Own) (w : World) (wb : Nat) (W : WorldM) (p : Nat → Nat) (vs vc vl : Value) : Prop where
  blk : Blk w wb 45 (worldCells p 6 vs vc vl)
  own : o wb = 23
  nodes : NodesAt o w p 6 W.node
  sent : RowOf 12 (MsgR (Of o 0) w) 48 o 20 w vs W.sent
  com : RowOf 4 (EntR (Of o 0) w) 63 o 21 w vc W.com
  ldr : RowOf 1 IntR 3 o 22 w vl W.ldr

section
variable {o o' : Own} {w w' : World} {wb : Nat} {W : WorldM} {p : Nat → Nat} {vs vc vl : Value}
theorem WorldAt.in_ (h : WorldAt o w wb W) : ∃ p vs vc vl, WorldIn o w wb W p vs vc vl := by
  obtain ⟨p, vs, vc, vl, h1, h2, h3, h4, h5, h6⟩ := h
  exact ⟨p, vs, vc, vl, h1, h2, h3, h4, h5, h6⟩
theorem WorldIn.at_ (h : WorldIn o w wb W p vs vc vl) : WorldAt o w wb W := ⟨p, vs, vc, vl, h.blk, h.own, h.nodes, h.sent, h.com, h.ldr⟩
theorem WorldIn.ext (h : WorldIn o w wb W p vs vc vl) (he : Ext [] o o' w w') : WorldIn o' w' wb W p vs vc vl :=
  ⟨he.blk h.blk (by simp), (he.own _ h.blk.lt).trans h.own, h.nodes.ext (by omega) he (by simp), h.sent.stays (he.stays (by simp)) (fun _ _ => MsgR.stays (he.stays (by simp))), h.com.stays (he.stays (by simp)) (fun _ _ => EntR.stays (he.stays (by simp))), h.ldr.stays (he.stays (by simp)) (fun _ _ h => h)⟩
theorem WorldIn.drew (h : WorldIn o w wb W p vs vc vl) : WorldIn o w.drew wb W p vs vc vl := h.ext ((Ext.refl [] o w).drew)
theorem WorldIn.below (h : WorldIn o w wb W p vs vc vl) (hw : Wf o w) (hb : Below w.heap.size w w') : WorldIn o w' wb W p vs vc vl := h.ext (Ext.of_below hb hw)

/-- one node has worked -/
theorem WorldIn.work (h : WorldIn o w wb W p vs vc vl) {k : Nat} (h1 : 1 ≤ k) (h5 : k ≤ 5) {r : RaftM} (he : Ext [2 * k, 2 * k + 1] o o' w w') (hR : RaftAt o' (2 * k) (2 * k + 1) w' (p k) { r with out := [] }) :
    WorldIn o' w' wb { W with node := (W.put k r).node } p vs vc vl := by
  refine ⟨he.blk h.blk (by rw [h.own]; simp; omega), (he.own _ h.blk.lt).trans h.own, fun j j1 j2 => ?_, ?_, ?_, ?_⟩
  · show RaftAt o' (2 * j) (2 * j + 1) w' (p j) (if (j : Int) = k then { r with out := [] } else W.node j)
    by_cases hj : j = k
    · subst hj; rw [if_pos rfl]; exact hR
    · rw [if_neg (by omega)]
      exact (h.nodes j j1 j2).ext he (by simp; omega) (by simp; omega) (by simp; omega)
  · exact h.sent.stays (he.stays (by simp; omega)) (fun _ _ => MsgR.stays (he.stays (by simp; omega)))
  · exact h.com.stays (he.stays (by simp; omega)) (fun _ _ => EntR.stays (he.stays (by simp; omega)))
  · exact h.ldr.stays (he.stays (by simp; omega)) (fun _ _ h => h)

/-- a block of the world's row is written -/
theorem WorldIn.setSent (h : WorldIn o w wb W p vs vc vl) {v : Value} {l : List Msg} (hv : RowOf 12 (MsgR (Of o 0) w) 48 o 20 w v l) : WorldIn o (w.setCell ⟨wb, 6, none⟩ v) wb { W with sent := l } p v vc vl := by
  have he : Ext [23] o o w (w.setCell ⟨wb, 6, none⟩ v) := (Ext.refl [23] o w).setCell (.inr (by simp [h.own])) _
  exact ⟨h.blk.set_ 6 v, h.own, h.nodes.ext (by omega) he (by simp), hv.stays (he.stays (by simp)) (fun _ _ => MsgR.stays (he.stays (by simp))), h.com.stays (he.stays (by simp)) (fun _ _ => EntR.stays (he.stays (by simp))), h.ldr.stays (he.stays (by simp)) (fun _ _ h => h)⟩
theorem WorldIn.setCom (h : WorldIn o w wb W p vs vc vl) {v : Value} {l : List Ent} (hv : RowOf 4 (EntR (Of o 0) w) 63 o 21 w v l) : WorldIn o (w.setCell ⟨wb, 7, none⟩ v) wb { W with com := l } p vs v vl := by
  have he : Ext [23] o o w (w.setCell ⟨wb, 7, none⟩ v) := (Ext.refl [23] o w).setCell (.inr (by simp [h.own])) _
  exact ⟨h.blk.set_ 7 v, h.own, h.nodes.ext (by omega) he (by simp), h.sent.stays (he.stays (by simp)) (fun _ _ => MsgR.stays (he.stays (by simp))), hv.stays (he.stays (by simp)) (fun _ _ => EntR.stays (he.stays (by simp))), h.ldr.stays (he.stays (by simp)) (fun _ _ h => h)⟩
theorem WorldIn.setLdr (h : WorldIn o w wb W p vs vc vl) {v : Value} {l : List Int} (hv : RowOf 1 IntR 3 o 22 w v l) : WorldIn o (w.setCell ⟨wb, 8, none⟩ v) wb { W with ldr := l } p vs vc v := by
  have he : Ext [23] o o w (w.setCell ⟨wb, 8, none⟩ v) := (Ext.refl [23] o w).setCell (.inr (by simp [h.own])) _
  exact ⟨h.blk.set_ 8 v, h.own, h.nodes.ext (by omega) he (by simp), h.sent.stays (he.stays (by simp)) (fun _ _ => MsgR.stays (he.stays (by simp))), h.com.stays (he.stays (by simp)) (fun _ _ => EntR.stays (he.stays (by simp))), hv.stays (he.stays (by simp)) (fun _ _ h => h)⟩
/-- a row of the world has grown: its owner's blocks alone are written -/
theorem WorldIn.grow (h : WorldIn o w wb W p vs vc vl) {q : Nat} (hq : 20 ≤ q) (hq2 : q ≤ 22) (he : Ext [q] o o' w w') :
    Blk w' wb 45 (worldCells p 6 vs vc vl) ∧ o' wb = 23 ∧ NodesAt o' w' p 6 W.node ∧ (q ≠ 20 → RowOf 12 (MsgR (Of o' 0) w') 48 o' 20 w' vs W.sent) ∧ (q ≠ 21 → RowOf 4 (EntR (Of o' 0) w') 63 o' 21 w' vc W.com) ∧ (q ≠ 22 → RowOf 1 IntR 3 o' 22 w' vl W.ldr) :=
  ⟨he.blk h.blk (by rw [h.own]; simp; omega), (he.own _ h.blk.lt).trans h.own, h.nodes.ext (by omega) he (by simp; omega), fun hn => h.sent.stays (he.stays (by simp; omega)) (fun _ _ => MsgR.stays (he.stays (by simp; omega))),
   fun hn => h.com.stays (he.stays (by simp; omega)) (fun _ _ => EntR.stays (he.stays (by simp; omega))), fun hn => h.ldr.stays (he.stays (by simp; omega)) (fun _ _ h => h)⟩
/-- a node is put anew -/
theorem WorldIn.putNode (h : WorldIn o w wb W p vs vc vl) {k b2 : Nat} (h1 : 1 ≤ k) (h5 : k ≤ 5) {r : RaftM} (hR : RaftAt o (2 * k) (2 * k + 1) w b2 { r with out := [] }) :
    WorldIn o (w.setCell ⟨wb, k, none⟩ (.pointer (some ⟨b2, 0, none⟩))) wb { W with node := (W.put k r).node } (fun j => if j = k then b2 else p j) vs vc vl := by
  have he : Ext [23] o o w (w.setCell ⟨wb, k, none⟩ (.pointer (some ⟨b2, 0, none⟩))) := (Ext.refl [23] o w).setCell (.inr (by simp [h.own])) _
  refine ⟨?_, h.own, fun j j1 j2 => ?_, h.sent.stays (he.stays (by simp)) (fun _ _ => MsgR.stays (he.stays (by simp))), h.com.stays (he.stays (by simp)) (fun _ _ => EntR.stays (he.stays (by simp))), h.ldr.stays (he.stays (by simp)) (fun _ _ h => h)⟩
  · have := h.blk.set_ k (.pointer (some ⟨b2, 0, none⟩))
    rw [worldCells_put p _ _ _ b2 k h1 h5] at this
    exact this
  · show RaftAt o (2 * j) (2 * j + 1) _ (if j = k then b2 else p j) (if (j : Int) = k then { r with out := [] } else W.node j)
    by_cases hj : j = k
    · subst hj; rw [if_pos rfl, if_pos rfl]; exact hR.ext he (by simp; omega) (by simp; omega) (by simp)
    · rw [if_neg hj, if_neg (by omega)]
      exact (h.nodes.ext (by omega) he (by simp)) j j1 j2
end
end Go.Proofs.Ytibkmhacpodceaa

/- The world in memory: its rows grow. -/
namespace Go.Proofs.Ytibkmhacpodceaa
open Go.RowKit

section
variable {o : Own} {w : World} {wb : Nat} {W : WorldM} {p : Nat → Nat} {vs vc vl : Value}
theorem sent_step (h : WorldIn o w wb W p vs vc vl) {x : Value} {l : List Msg} {B : Nat → Prop} (hx : SliceOf 12 (MsgR (Of o 0) w) B w x l) (hl : W.sent.length + l.length ≤ 100000) :
    ∃ v' w', (Builtin.append_ #[39, 39] 39 #[vs, x]).run Try.prog w = .ok v' w' ∧ (∃ A9 k9 c9, v' = .slice A9 k9 c9) ∧ wb < w'.heap.size ∧ (∀ i, w'.frozen? ⟨wb, i, none⟩ = false) ∧ w'.cell? ⟨wb, 6, none⟩ = some vs ∧
      Hid (∃ o', WorldIn o' (w'.setCell ⟨wb, 6, none⟩ v') wb { W with sent := W.sent ++ l } p v' vc vl ∧ Ext [20, 23] o o' w (w'.setCell ⟨wb, 6, none⟩ v')) := by
  obtain ⟨v', w', h1, o', h2, h3, _⟩ := append_msgs (k := 20) 39 (by decide) h.sent hx hl
  obtain ⟨g1, g2, g3, g4, g5, g6⟩ := h.grow (q := 20) (by decide) (by decide) h3
  have hW : WorldIn o' (w'.setCell ⟨wb, 6, none⟩ v') wb { W with sent := W.sent ++ l } p v' vc vl := by
    have he : Ext [23] o' o' w' (w'.setCell ⟨wb, 6, none⟩ v') := (Ext.refl [23] o' w').setCell (.inr (by simp [g2])) _
    exact ⟨g1.set_ 6 v', g2, g3.ext (by omega) he (by simp), h2.stays (he.stays (by simp)) (fun _ _ => MsgR.stays (he.stays (by simp))), (g5 (by decide)).stays (he.stays (by simp)) (fun _ _ => EntR.stays (he.stays (by simp))), (g6 (by decide)).stays (he.stays (by simp)) (fun _ _ h => h)⟩
  refine ⟨v', w', h1, (by obtain ⟨A9, c9, rfl, _⟩ := h2.form; exact ⟨_, _, _, rfl⟩), g1.lt, g1.frozens, by rw [g1.cells]; rfl, o', hW, (h3.mono (by simp)).trans ((Ext.refl [20, 23] o' w').setCell (.inr (by simp [g2])) _)⟩
theorem com_step (h : WorldIn o w wb W p vs vc vl) {x : Value} {l : List Ent} {B : Nat → Prop} (hx : EntsAt B (Of o 0) w x l) (hl : W.com.length + l.length ≤ 100000) :
    ∃ v' w', (Builtin.append_ #[43, 43] 43 #[vc, x]).run Try.prog w = .ok v' w' ∧ (∃ A9 k9 c9, v' = .slice A9 k9 c9) ∧ wb < w'.heap.size ∧ (∀ i, w'.frozen? ⟨wb, i, none⟩ = false) ∧ w'.cell? ⟨wb, 7, none⟩ = some vc ∧
      Hid (∃ o', WorldIn o' (w'.setCell ⟨wb, 7, none⟩ v') wb { W with com := W.com ++ l } p vs v' vl ∧ Ext [21, 23] o o' w (w'.setCell ⟨wb, 7, none⟩ v')) := by
  obtain ⟨v', w', h1, o', h2, h3, _⟩ := append_ents (k := 21) 43 (by decide) h.com hx hl
  obtain ⟨g1, g2, g3, g4, g5, g6⟩ := h.grow (q := 21) (by decide) (by decide) h3
  have hW : WorldIn o' (w'.setCell ⟨wb, 7, none⟩ v') wb { W with com := W.com ++ l } p vs v' vl := by
    have he : Ext [23] o' o' w' (w'.setCell ⟨wb, 7, none⟩ v') := (Ext.refl [23] o' w').setCell (.inr (by simp [g2])) _
    exact ⟨g1.set_ 7 v', g2, g3.ext (by omega) he (by simp), (g4 (by decide)).stays (he.stays (by simp)) (fun _ _ => MsgR.stays (he.stays (by simp))), h2.stays (he.stays (by simp)) (fun _ _ => EntR.stays (he.stays (by simp))), (g6 (by decide)).stays (he.stays (by simp)) (fun _ _ h => h)⟩
  refine ⟨v', w', h1, (by obtain ⟨A9, c9, rfl, _⟩ := h2.form; exact ⟨_, _, _, rfl⟩), g1.lt, g1.frozens, by rw [g1.cells]; rfl, o', hW, (h3.mono (by simp)).trans ((Ext.refl [21, 23] o' w').setCell (.inr (by simp [g2])) _)⟩
theorem ldr_step (h : WorldIn o w wb W p vs vc vl) {x : Value} {l : List Int} {B : Nat → Prop} (hx : IntsAt B w x l) (hl : W.ldr.length + l.length ≤ 100000) :
    ∃ v' w', (Builtin.append_ #[35, 35] 35 #[vl, x]).run Try.prog w = .ok v' w' ∧ (∃ A9 k9 c9, v' = .slice A9 k9 c9) ∧ wb < w'.heap.size ∧ (∀ i, w'.frozen? ⟨wb, i, none⟩ = false) ∧ w'.cell? ⟨wb, 8, none⟩ = some vl ∧
      Hid (∃ o', WorldIn o' (w'.setCell ⟨wb, 8, none⟩ v') wb { W with ldr := W.ldr ++ l } p vs vc v' ∧ Ext [22, 23] o o' w (w'.setCell ⟨wb, 8, none⟩ v')) := by
  obtain ⟨v', w', h1, o', h2, h3, _⟩ := append_ints (k := 22) 35 h.ldr hx hl
  obtain ⟨g1, g2, g3, g4, g5, g6⟩ := h.grow (q := 22) (by decide) (by decide) h3
  have hW : WorldIn o' (w'.setCell ⟨wb, 8, none⟩ v') wb { W with ldr := W.ldr ++ l } p vs vc v' := by
    have he : Ext [23] o' o' w' (w'.setCell ⟨wb, 8, none⟩ v') := (Ext.refl [23] o' w').setCell (.inr (by simp [g2])) _
    exact ⟨g1.set_ 8 v', g2, g3.ext (by omega) he (by simp), (g4 (by decide)).stays (he.stays (by simp)) (fun _ _ => MsgR.stays (he.stays (by simp))), (g5 (by decide)).stays (he.stays (by simp)) (fun _ _ => EntR.stays (he.stays (by simp))), h2.stays (he.stays (by simp)) (fun _ _ h => h)⟩
  refine ⟨v', w', h1, (by obtain ⟨A9, c9, rfl, _⟩ := h2.form; exact ⟨_, _, _, rfl⟩), g1.lt, g1.frozens, by rw [g1.cells]; rfl, o', hW, (h3.mono (by simp)).trans ((Ext.refl [22, 23] o' w').setCell (.inr (by simp [g2])) _)⟩
end
end Go.Proofs.Ytibkmhacpodceaa

/- play: what it answers. -/
namespace Go.Proofs.Ytibkmhacpodceaa
open Go.RowKit

theorem bits_and3 (x : Int) : ∃ k : Nat, k ≤ 3 ∧ bits .and .i64 x 3 = (k : Int) := by
  have h : (BitVec.ofInt 64 x &&& BitVec.ofInt 64 3).toNat ≤ 3 := by rw [BitVec.toNat_and]; exact Nat.and_le_right
  refine ⟨(BitVec.ofInt 64 x &&& BitVec.ofInt 64 3).toNat, h, ?_⟩
  show IntKind.i64.wrap ((BitVec.ofInt 64 x &&& BitVec.ofInt 64 3).toNat : Int) = _
  exact IntWalk.i64_in _ (by omega)

structure Ready (W : WorldM) : Prop where
  fits : ∀ j : Nat, 1 ≤ j → j ≤ 5 → (W.node j).Fits ∧ (W.node j).term < 10000 ∧ (W.node j).elapsed < 10000 ∧ (W.node j).out = [] ∧ ((W.node j).vote = 0 ∨ (1 ≤ (W.node j).vote ∧ (W.node j).vote ≤ 5)) ∧ (W.node j).log.last.2 ≤ (W.node j).term ∧ ∀ q, (W.node j).match_ q ≤ 50000
  msg : ∀ m, m ∈ W.sent → m.Small ∧ m.term ≤ 10000 ∧ 1 ≤ m.from_ ∧ m.from_ ≤ 5 ∧ 1 ≤ m.to_ ∧ m.to_ ≤ 5
  len : ∀ (k : Int) r', 1 ≤ k → k ≤ 5 → Nxt W.sent k (W.node k) r' → W.sent.length + r'.out.length ≤ 100000

def PlayIs (o : Own) (wb : Nat) (W : WorldM) (w : World) (e : Ending) (w' : World) : Prop :=
  ∃ (k : Nat) (o' : Own), e = .returned (.int .i64 k) ∧ Ext Owners o o' w w' ∧ ((k = 0 ∧ WorldAt o' w' wb W) ∨ (1 ≤ k ∧ k ≤ 5 ∧ ∃ r', Nxt W.sent k (W.node k) r' ∧ WorldAt o' w' wb (W.put k r')))

/-- an event's node has worked; what it gives is yet to be sent -/
def PlayMid (o : Own) (wb : Nat) (W : WorldM) (w : World) (s5 s7 : Value) (wx : World) : Prop :=
  ∃ (k : Nat) (r' : RaftM) (o' : Own) (p : Nat → Nat) (vs vc vl : Value) (B : Nat → Prop), 1 ≤ k ∧ k ≤ 5 ∧ s5 = .int .i64 k ∧ Nxt W.sent k (W.node k) r' ∧ Ext Owners o o' w wx ∧ WorldIn o' wx wb { W with node := (W.put k r').node } p vs vc vl ∧ SliceOf 12 (MsgR (Of o' 0) wx) B wx s7 r'.out

theorem PlayMid.of {o o1 : Own} {wb k : Nat} {W : WorldM} {w wc w1 w2 : World} {p : Nat → Nat} {vs vc vl v : Value} {r' : RaftM} (hC : WorldIn o wc wb W p vs vc vl) (hE : Ext Owners o o w wc) (he1 : Ext [] o o1 wc w1) (h1 : 1 ≤ k) (h5 : k ≤ 5) (hN : Nxt W.sent k (W.node k) r')
    (hO : OutIs o1 (2 * k) (2 * k + 1) (p k) r' w1 v w2) : PlayMid o wb W w (.int .i64 k) v w2 := by
  obtain ⟨o2, A, n, rfl, hS, hR, hE2⟩ := hO
  have := owners_kr k h1 h5
  exact ⟨k, r', o2, p, vs, vc, vl, _, h1, h5, rfl, hN, (hE.trans (he1.mono (by simp))).trans (hE2.mono (by simp; exact this)), (hC.ext he1).work h1 h5 hE2 hR, hS⟩

/-- a value's cells go into the middle of a row -/
theorem wp_store_row {P : Program} {op : Oper} {a : Act} {w : World} {K : Act → World → Prop} {Q : Exit → Act → World → Prop} (ty : TypeId) (x y : Operand) (ho : op.op = .store ty x y) (g o : Nat) (cs : List Value) (cur : Array Value) (t : TypeId)
    (hx : a.eval x = .pointer (some ⟨g, o, none⟩)) (hy : a.eval y = .agg cs.toArray) (hg : w.heap[g]? = some (.cells cur t (0, 0))) (hfit : o + cs.length ≤ cur.size) (hi : (P.info? ty).map (·.size) = some cs.length) (h1 : ∀ v ∈ cs, v.oneCell' = true)
    (h : K (a.put op.dst undef) (w.setRow g (cur.toList.take o ++ cs ++ cur.toList.drop (o + cs.length)).toArray)) : op.wp P a w K Q := by
  have hst := run_storeCells_at P g o t cs 0 cur w hg (by simpa using hfit) h1
  have key : (storeVar ty ⟨g, o, none⟩ (.agg cs.toArray)).run P w = .ok () (w.setRow g (cur.toList.take o ++ cs ++ cur.toList.drop (o + cs.length)).toArray) := by
    cases hq : P.info? ty with
    | none => simp [hq] at hi
    | some i =>
      have hs : cs.length = i.size := by simp [hq] at hi; omega
      simp only [Nat.add_zero] at hst
      simp [storeVar, sizeOf, typeInfo, hq, Value.cells, hs, hst]
  unfold Oper.wp execOp
  simp only [ho, hx, hy, Instr.storeAt, Instr.sureAddr, Sem.run_bind, Sem.run_pure, Result.andThen_ok, key]
  exact h

/-- a value's cells go into the block that was made last -/
theorem wp_store_fresh {P : Program} {op : Oper} {a : Act} {w w0 : World} {K : Act → World → Prop} {Q : Exit → Act → World → Prop} (t : TypeId) (x y : Operand) (ho : op.op = .store t x y) (cs : List Value) (c : Array Value) (hw0 : w0 = w.alloc (.cells c t))
    (hx : a.eval x = .pointer (some ⟨w.heap.size, 0, none⟩)) (hy : a.eval y = .agg cs.toArray) (hi : (P.info? t).map (·.size) = some cs.toArray.size) (hc : c.size = cs.toArray.size) (h1 : cs.toArray.all (·.oneCell') = true)
    (h : K (a.put op.dst undef) (w.alloc (.cells cs.toArray t))) : op.wp P a w0 K Q := by
  subst hw0
  unfold Oper.wp execOp
  simp only [ho, hx, hy, Instr.storeAt, Instr.sureAddr, Sem.run_bind, Sem.run_pure, Result.andThen_ok, run_storeVar_new w t c cs.toArray hi hc h1]
  exact h

end Go.Proofs.Ytibkmhacpodceaa
