/- append to a row of the call's own. No condition but the sizes that a slice can have. -/
import Derived.Test.YtiikniopjcnphaaDoorTypes
namespace Go.Proofs.YtiikniopjcnphaaDoor
open Go.RowKit

/-- append(v, x): x lies in the block that was made last. -/
theorem app1 {P : Program} {ops : Array Oper} {rest : List Oper} {o : Oper} {a : Act} {Q : Exit → Act → World → Prop} (hgd : o.guard = none) (s x : Operand) (t : TypeId)
    (ho : o.op = .call { callee := .builtin .append, args := #[s, x], argTypes := #[t, t] })
    (w0 : World) (e : TypeId) (i : TypeInfo) (z : Value) (size bytes : Nat) (ht : P.underlying t = some (.slice e)) (hi : P.info? e = some i) (hz : i.zero = some z)
    (hsize : i.size = size) (hby : i.bytes = bytes) (hzs : z.cells.size = size) (hsz : 0 < size)
    (v : Value) (n : Nat) (xs : List Value) (hs : a.eval s = v) (wr : World) (hown : wr.ownsRow w0.heap.size e size v n xs) (hg : Grew w0 wr)
    (cs : List Value) (hx : a.eval x = .slice (some ⟨wr.heap.size, 0, none⟩) 1 1) (hl : cs.length = size) (h1 : cs.all (·.oneCell') = true)
    (h63 : n + 1 ≤ maxLen) (hbytes : (n + 1) * bytes ≤ 140737488355328)
    (h : ∀ v' w', w'.ownsRow w0.heap.size e size v' (n + 1) (xs ++ cs) → Grew w0 w' → wpList P ops Q rest (a.put o.dst v') w') : wpList P ops Q (o :: rest) a (wr.alloc (.cells cs.toArray e)) := by
  refine wpList_append_own _ hgd s x t ho w0.heap.size e i z size bytes ht hi hz hsize hby hzs hsz v n xs hs (hown.alloc _) ⟨wr.heap.size, 0, none⟩ 1 1 cs hx (by omega) ?_ ?_ h63 hbytes ?_ ?_
  · intro j u hu
    have hlast : (wr.alloc (.cells cs.toArray e)).heap[wr.heap.size]? = some (.cells cs.toArray e) := heap_alloc_last wr _
    rw [add_lit, Nat.zero_add, cell_of_row _ _ _ _ _ _ hlast]
    simpa using hu
  · exact fun u hu => List.all_eq_true.1 h1 u hu
  · have := hg.size
    simp
    omega
  · intro v' w' h2 h3 _
    refine h v' w' h2 ?_
    refine Below.grown (hg.alloc _) h3 (by have := hg.size; simp; omega) (fun k hk => ?_)
    exact (hown.lt k hk).1

/-- append(v, u...): u holds cs. -/
theorem appN {P : Program} {ops : Array Oper} {rest : List Oper} {o : Oper} {a : Act} {Q : Exit → Act → World → Prop} (hgd : o.guard = none) (s x : Operand) (t : TypeId)
    (ho : o.op = .call { callee := .builtin .append, args := #[s, x], argTypes := #[t, t] })
    (w0 : World) (e : TypeId) (i : TypeInfo) (z : Value) (size bytes : Nat) (ht : P.underlying t = some (.slice e)) (hi : P.info? e = some i) (hz : i.zero = some z)
    (hsize : i.size = size) (hby : i.bytes = bytes) (hzs : z.cells.size = size) (hsz : 0 < size)
    (v : Value) (n : Nat) (xs : List Value) (hs : a.eval s = v) (wr : World) (hown : wr.ownsRow w0.heap.size e size v n xs) (hg : Grew w0 wr)
    (m : Nat) (c : Nat) (b off : Nat) (cs : List Value) (hx : a.eval x = .slice (some ⟨b, off, none⟩) m c) (hl : cs.length = m * size) (hc : ∀ j u, cs[j]? = some u → wr.cell? ⟨b, off + j, none⟩ = some u) (h1 : ∀ u ∈ cs, u.oneCell' = true)
    (h63 : n + m ≤ maxLen) (hbytes : (n + m) * bytes ≤ 140737488355328)
    (h : ∀ v' w', w'.ownsRow w0.heap.size e size v' (n + m) (xs ++ cs) → Grew w0 w' → wpList P ops Q rest (a.put o.dst v') w') : wpList P ops Q (o :: rest) a wr := by
  refine wpList_append_own _ hgd s x t ho w0.heap.size e i z size bytes ht hi hz hsize hby hzs hsz v n xs hs hown ⟨b, off, none⟩ m c cs hx hl ?_ h1 h63 hbytes hg.size ?_
  · intro j u hu
    rw [add_lit]
    exact hc j u hu
  · intro v' w' h2 h3 _
    refine h v' w' h2 ?_
    exact Below.grown hg h3 hg.size (fun k hk => (hown.lt k hk).1)
/-- append(v, u...) as a step of a region that draws its order. -/
theorem stepN {P : Program} {ops : Array Oper} {o : Oper} {a : Act} {K : Act → World → Prop} {Q : Exit → Act → World → Prop} {E : Prop} (hgd : o.guard = none) (s x : Operand) (t : TypeId)
    (ho : o.op = .call { callee := .builtin .append, args := #[s, x], argTypes := #[t, t] })
    (w0 : World) (e : TypeId) (i : TypeInfo) (z : Value) (size bytes : Nat) (ht : P.underlying t = some (.slice e)) (hi : P.info? e = some i) (hz : i.zero = some z)
    (hsize : i.size = size) (hby : i.bytes = bytes) (hzs : z.cells.size = size) (hsz : 0 < size)
    (v : Value) (n : Nat) (xs : List Value) (hs : a.eval s = v) (wr : World) (hown : wr.ownsRow w0.heap.size e size v n xs) (hg : Grew w0 wr)
    (m : Nat) (c : Nat) (b off : Nat) (cs : List Value) (hx : a.eval x = .slice (some ⟨b, off, none⟩) m c) (hl : cs.length = m * size) (hc : ∀ j u, cs[j]? = some u → wr.cell? ⟨b, off + j, none⟩ = some u) (h1 : ∀ u ∈ cs, u.oneCell' = true)
    (h63 : n + m ≤ maxLen) (hbytes : (n + m) * bytes ≤ 140737488355328)
    (h : ∀ v' w', w'.ownsRow w0.heap.size e size v' (n + m) (xs ++ cs) → Grew w0 w' → (∀ p x, wr.cell? p = some x → some p.block ≠ v.ownBlock → w'.cell? p = some x) → K (a.put o.dst v') w') : if Region.wanted o (yielded ops a.tmps) = true then Oper.wp P o a wr K Q else E := by
  have hw : Region.wanted o (yielded ops a.tmps) = true := by simp [Region.wanted, hgd]
  rw [if_pos hw]
  refine wp_append_own wr s x t ho w0.heap.size e i z size bytes ht hi hz hsize hby hzs hsz v n xs hs hown ⟨b, off, none⟩ m c cs hx hl ?_ h1 h63 hbytes hg.size ?_
  · intro j u hu
    rw [add_lit]
    exact hc j u hu
  · intro v' w' h2 h3 _
    exact h v' w' h2 (Below.grown hg h3 hg.size (fun k hk => (hown.lt k hk).1)) (fun p x hp hne => h3.cell hp hne)
theorem heldB (w w1 W : World) (p : Addr) (x : Value) (h : w1.cell? p = some x) (hlt : p.block < w1.heap.size) (g0 : Grew w w1) (g : Grew w1 W) : W.cell? p = some x ∧ Grew w W := ⟨(g.cell hlt).trans h, g0.trans g⟩
theorem heldA (w1 W : World) (p : Addr) (x : Value) (h : w1.cell? p = some x) (hlt : p.block < w1.heap.size) (g : Grew w1 W) : W.cell? p = some x ∧ Grew w1 W := ⟨(g.cell hlt).trans h, g⟩
theorem heldA3 (w1 W : World) (p q r : Addr) (x y z : Value) (h : w1.cell? p = some x) (hlt : p.block < w1.heap.size) (h2 : w1.cell? q = some y) (hlt2 : q.block < w1.heap.size) (h3 : w1.cell? r = some z) (hlt3 : r.block < w1.heap.size) (g : Grew w1 W) : W.cell? p = some x ∧ W.cell? q = some y ∧ W.cell? r = some z ∧ Grew w1 W :=
  ⟨(g.cell hlt).trans h, (g.cell hlt2).trans h2, (g.cell hlt3).trans h3, g⟩
end Go.Proofs.YtiikniopjcnphaaDoor
