/- Lemmas on what the functions of the program and of the library compute: Ins, InsR, App3, App4. The conditions stand at each. -/
import Derived.Test.YtjaknioojpgkiaaGreatDoorQ3
import Derived.Lib.Overlaps
import Derived.Lib.AppendZerosOnto
import Derived.Laws.CopyOwn
import Derived.Deep.RegionLaw
import Derived.Deep.AppendLies
import Derived.Test.YtjaknioojpgkiaaGreatDoorQ1
/- Laws for copy at elements of several cells. No condition. -/
namespace Go.Proofs.YtjaknioojpgkiaaGreatDoor
open Go.RowKit

theorem run_copy_rowk {P : Program} (w : World) (dT sT ty elem : TypeId) (g o dLen dCap : Nat) (a : Addr) (sLen sCap k : Nat) (cur : List Value) (t : TypeId) (cs : List Value)
    (hu : P.underlying dT = some (.slice elem)) (hs : (P.info? elem).map (·.size) = some k) (hg : w.heap[g]? = some (.cells cur.toArray t (0, 0))) (hn : cs.length = Nat.min sLen dLen * k)
    (hsrc : ∀ j v, cs[j]? = some v → w.cell? (a.add j) = some v) (hfit : o + cs.length ≤ cur.length) (h1 : ∀ v ∈ cs, v.oneCell' = true) :
    (Builtin.copy_ #[dT, sT] ty #[.slice (some ⟨g, o, none⟩) dLen dCap, .slice (some a) sLen sCap]).run P w = .ok (goInt (Nat.min sLen dLen)) (w.setRow g (splice cur o cs).toArray) := by
  have hl := run_loadCells_list (P := P) w a cs hsrc
  have hst := run_storeCells_at P g o t cs 0 cur.toArray w hg (by simpa using hfit) h1
  cases hq : P.info? elem with
  | none => simp [hq] at hs
  | some i =>
    have hi : i.size = k := by simpa [hq] using hs
    rw [hn] at hl
    simp [Builtin.copy_, run_underlying hu, Builtin.lenOf, Builtin.firstCells, sizeOf, typeInfo, hq, hi, hl, hst, splice]
/-- copy(d, s) at an operation: d lies in a row that is known whole. -/
theorem copyK {P : Program} {w : World} {ops : Array Oper} {rest : List Oper} {o : Oper} {a : Act} {Q : Exit → Act → World → Prop} (hgd : o.guard = none) (d s : Operand) (dT sT : TypeId)
    (ho : o.op = .call { callee := .builtin .copy, args := #[d, s], argTypes := #[dT, sT] }) (elem : TypeId) (hu : P.underlying dT = some (.slice elem)) (k : Nat) (hsz : (P.info? elem).map (·.size) = some k)
    (g off dLen dCap : Nat) (ad : Addr) (sLen sCap : Nat) (hd : a.eval d = .slice (some ⟨g, off, none⟩) dLen dCap) (hs : a.eval s = .slice (some ad) sLen sCap)
    (cur : List Value) (t : TypeId) (hg : w.heap[g]? = some (.cells cur.toArray t (0, 0))) (cs : List Value) (hn : cs.length = Nat.min sLen dLen * k)
    (hsrc : ∀ j v, cs[j]? = some v → w.cell? (ad.add j) = some v) (hfit : off + cs.length ≤ cur.length) (h1 : ∀ v ∈ cs, v.oneCell' = true) (w0 : World) (hb : Grew w0 w) (hBg : w0.heap.size ≤ g)
    (h : ∀ w', Hid (w'.heap[g]? = some (.cells (splice cur off cs).toArray t (0, 0))) → Hid (Grew w0 w') → Hid (∀ b, b ≠ g → w'.heap[b]? = w.heap[b]?) → wpList P ops Q rest (a.put o.dst (goInt (Nat.min sLen dLen))) w') :
    wpList P ops Q (o :: rest) a w := by
  refine wpList_plain hgd fun K hK => ?_
  have hrun := run_copy_rowk (P := P) w dT sT o.type elem g off dLen dCap ad sLen sCap k cur t cs hu hsz hg hn hsrc hfit h1
  unfold Oper.wp
  simp [execOp, ho, resolve, invoke, builtin, hd, hs, hrun, Result.andThen]
  exact hK _ _ (h _ (setRow_heap w g _ _ t _ hg) (below_setRow hb hBg _) (fun b hb => setRow_other w g b _ hb))
theorem copy_run {P : Program} (w : World) (dT sT : TypeId) (elem : TypeId) (hu : P.underlying dT = some (.slice elem)) (k : Nat) (hsz : (P.info? elem).map (·.size) = some k)
    (g off dLen dCap : Nat) (ad : Addr) (sLen sCap : Nat) (cur : List Value) (t : TypeId) (hg : w.heap[g]? = some (.cells cur.toArray t (0, 0))) (cs : List Value) (hn : cs.length = Nat.min sLen dLen * k)
    (hsrc : ∀ j v, cs[j]? = some v → w.cell? (ad.add j) = some v) (hfit : off + cs.length ≤ cur.length) (h1 : ∀ v ∈ cs, v.oneCell' = true) (w0 : World) (hb : Grew w0 w) (hBg : w0.heap.size ≤ g) :
    ∃ w', (∀ ty, (Builtin.copy_ #[dT, sT] ty #[.slice (some ⟨g, off, none⟩) dLen dCap, .slice (some ad) sLen sCap]).run P w = .ok (goInt (Nat.min sLen dLen)) w') ∧ w'.heap[g]? = some (.cells (splice cur off cs).toArray t (0, 0)) ∧ Grew w0 w' ∧ ∀ b, b ≠ g → w'.heap[b]? = w.heap[b]? :=
  ⟨_, fun ty => run_copy_rowk (P := P) w dT sT ty elem g off dLen dCap ad sLen sCap k cur t cs hu hsz hg hn hsrc hfit h1, setRow_heap w g _ _ t _ hg, below_setRow hb hBg _, fun b hb => setRow_other w g b _ hb⟩
theorem splice_shift {α : Type} (p q r x : List α) (h : x.length ≤ r.length) : splice (splice (p ++ q ++ r) (p.length + x.length) q) p.length x = p ++ x ++ q ++ (p ++ q ++ r).drop (p.length + x.length + q.length) := by
  generalize hC : p ++ q ++ r = C
  have hl : p.length + x.length ≤ C.length := by rw [← hC]; simp; omega
  have hp : C.take p.length = p := by rw [← hC, List.append_assoc, List.take_left]
  have h1 : (splice C (p.length + x.length) q).take p.length = p := by
    unfold splice
    rw [List.take_append_of_le_length (by rw [List.length_take]; omega), List.take_take, Nat.min_eq_left (by omega), hp]
  have h2 : (splice C (p.length + x.length) q).drop (p.length + x.length) = q ++ C.drop (p.length + x.length + q.length) := by
    unfold splice
    rw [List.drop_append_of_le_length (by rw [List.length_take]; omega), List.drop_eq_nil_of_le (by rw [List.length_take]; omega), List.nil_append]
  rw [splice, h1, h2]
  simp
theorem splice_new {α : Type} (p q z x : List α) : splice (splice (p ++ z) p.length x) (p.length + x.length) q = p ++ x ++ q ++ z.drop (x.length + q.length) := by
  have h1 : splice (p ++ z) p.length x = p ++ x ++ z.drop x.length := by
    unfold splice
    rw [List.take_left, List.drop_append, List.drop_eq_nil_of_le (by omega), Nat.add_sub_cancel_left]
    simp
  rw [h1, splice]
  rw [show p.length + x.length = (p ++ x).length by simp, List.take_left, List.drop_append, List.drop_eq_nil_of_le (by omega), Nat.add_sub_cancel_left, List.drop_drop]
  simp
theorem cells_at {w : World} {g : Nat} {cs : List Value} {t : TypeId} {ab : Nat × Nat} (h : w.heap[g]? = some (.cells cs.toArray t ab)) (j : Nat) (v : Value) (hj : cs[j]? = some v) : w.cell? ⟨g, j, none⟩ = some v := by
  rw [cell_of_row _ _ _ _ _ _ h]
  simpa using hj
end Go.Proofs.YtjaknioojpgkiaaGreatDoor

/- slices.Insert of one relation, on a row of the call's own. No condition but the sizes that a slice can have. -/
namespace Go.Proofs.YtjaknioojpgkiaaGreatDoor
open Go.RowKit

/-- The slice lies, if anywhere, in a block from n on. -/
def Fresh (n : Nat) (v : Value) : Prop := ∀ k, v.ownBlock = some k → n ≤ k
theorem Fresh.nil (n c d : Nat) : Fresh n (.slice none c d) := fun k hk => by simp [Value.ownBlock] at hk
theorem Fresh.at_ {n b o c d : Nat} {s : Option Nat} (h : n ≤ b) : Fresh n (.slice (some ⟨b, o, s⟩) c d) := fun k hk => by simp [Value.ownBlock] at hk; omega
theorem Fresh.own {w : World} {base : Nat} {e : TypeId} {k : Nat} {v : Value} {n : Nat} {xs : List Value} (h : w.ownsRow base e k v n xs) : Fresh base v := fun k hk => (h.lt k hk).1
theorem Fresh.le {m n : Nat} {v : Value} (h : Fresh n v) (hm : m ≤ n) : Fresh m v := fun k hk => Nat.le_trans hm (h k hk)
theorem flat_take {α : Type} {f : α → List Value} {k : Nat} (hk : ∀ x, (f x).length = k) (l : List α) (i : Nat) : (l.flatMap f).take (i * k) = (l.take i).flatMap f ∧ (l.flatMap f).drop (i * k) = (l.drop i).flatMap f := by
  induction l generalizing i with
  | nil => simp
  | cons x r ih =>
    cases i with
    | zero => simp
    | succ i =>
      have e : (i + 1) * k = (f x).length + i * k := by rw [hk, Nat.succ_mul]; omega
      rw [List.flatMap_cons, e, List.take_length_add_append, List.drop_length_add_append, (ih i).1, (ih i).2]
      simp
end Go.Proofs.YtjaknioojpgkiaaGreatDoor

/- append of a slice, nil let in, to an empty list that was just made. No condition but the sizes that a slice can have. -/
namespace Go.Proofs.YtjaknioojpgkiaaGreatDoor
open Go.RowKit

/-- The slice lies, if anywhere, in a block from n on that is there. -/
def Lies (n : Nat) (w : World) (v : Value) : Prop := ∀ k, v.ownBlock = some k → n ≤ k ∧ k < w.heap.size
theorem Lies.mono {n : Nat} {w w' : World} {v : Value} (h : Lies n w v) (hs : w.heap.size ≤ w'.heap.size) : Lies n w' v := fun k hk => ⟨(h k hk).1, Nat.lt_of_lt_of_le (h k hk).2 hs⟩
end Go.Proofs.YtjaknioojpgkiaaGreatDoor

/- Parts of a slice, and an empty list that was just made as a row of the call's own. No condition but the sizes that a slice can have. -/
namespace Go.Proofs.YtjaknioojpgkiaaGreatDoor
open Go.RowKit

/-- s[:k]. -/
theorem part_to {P : Program} {t e : TypeId} {i : TypeInfo} (ht : P.underlying t = some (.slice e)) (hi : P.info? e = some i) (A : Option Addr) (n c k : Nat) (hk : k ≤ n) (hn : n ≤ c) :
    ∀ W, (Instr.slice t (.slice A n c) none (some (.int .i64 (k : Int))) none).run P W = .ok (.slice A k c) W := by
  intro W
  have h0 : (0 : Int) ≤ (k : Int) := by omega
  have h1 : k ≤ c := by omega
  have h2 : (k : Int) ≤ (c : Int) := by omega
  have ha : A.map (fun a => a.add 0) = A := by cases A <;> simp [Addr.add]
  simp [Instr.slice, run_underlying ht, Instr.sliceBounds, run_sliceBound, h2, sizeOf, typeInfo, hi, ha]
def sufV (A : Option Addr) (n c k size : Nat) : Value := .slice (if c = k then A else A.map (·.add (k * size))) (n - k) (c - k)
/-- s[k:]. -/
theorem part_from {P : Program} {t e : TypeId} {i : TypeInfo} {size : Nat} (ht : P.underlying t = some (.slice e)) (hi : P.info? e = some i) (hsize : i.size = size) (A : Option Addr) (n c k : Nat) (hk : k ≤ n) :
    ∀ W, (Instr.slice t (.slice A n c) (some (.int .i64 (k : Int))) none none).run P W = .ok (sufV A n c k size) W := by
  intro W
  subst hsize
  have h0 : (0 : Int) ≤ (k : Int) := by omega
  have h2 : (k : Int) ≤ (n : Int) := by omega
  simp [Instr.slice, run_underlying ht, Instr.sliceBounds, run_sliceBound, h2, sizeOf, typeInfo, hi, sufV]
theorem preV_rd {W : World} {size n c k : Nat} {A : Option Addr} {cs : List Value} (h : Rd W size (.slice A n c) cs) (hk : k ≤ n) : Rd W size (.slice A k c) (cs.take (k * size)) := by
  obtain ⟨A', n', c', hv, hl, hn, hc, hr⟩ := h
  obtain ⟨rfl, rfl, rfl⟩ := Value.slice.inj hv
  have hm : k * size ≤ n * size := Nat.mul_le_mul_right _ hk
  refine ⟨A, k, c, rfl, by rw [List.length_take]; omega, by omega, hc, fun h0 => ?_⟩
  obtain ⟨b, off, hA, hb, hcell⟩ := hr (by omega)
  refine ⟨b, off, hA, hb, fun j u hu => ?_⟩
  rw [List.getElem?_take] at hu
  split at hu
  · exact hcell j u hu
  · cases hu
theorem sufV_rd {W : World} {size n c k : Nat} {A : Option Addr} {cs : List Value} (h : Rd W size (.slice A n c) cs) (hk : k ≤ n) : Rd W size (sufV A n c k size) (cs.drop (k * size)) := by
  obtain ⟨A', n', c', hv, hl, hn, hc, hr⟩ := h
  obtain ⟨rfl, rfl, rfl⟩ := Value.slice.inj hv
  have hm : k * size ≤ n * size := Nat.mul_le_mul_right _ hk
  refine ⟨_, n - k, c - k, rfl, by rw [List.length_drop, hl, Nat.sub_mul], by omega, by omega, fun h0 => ?_⟩
  obtain ⟨b, off, rfl, hb, hcell⟩ := hr (by omega)
  refine ⟨b, off + k * size, ?_, hb, fun j u hu => ?_⟩
  · rw [if_neg (by omega), Option.map_some, add_lit]
  · rw [List.getElem?_drop] at hu
    rw [Nat.add_assoc]
    exact hcell _ u hu
theorem own_lit {W : World} {base size : Nat} {e : TypeId} (H : Nat) (hH : W.heap.size = H) (hb : base ≤ H) : (W.alloc (.cells #[] e)).ownsRow base e size (.slice (some ⟨H, 0, none⟩) 0 0) 0 [] := by
  subst hH
  exact World.ownsRow_made W #[] 0 hb (Nat.zero_le _) (by simp)
theorem rd_lit {W : World} {size : Nat} {e : TypeId} (cs : List Value) (hl : cs.length = size) (H : Nat) (hH : W.heap.size = H) : Rd (W.alloc (.cells cs.toArray e)) size (.slice (some ⟨H, 0, none⟩) 1 1) cs := by
  subst hH
  exact Rd.fresh W e size 1 cs (by omega) (by unfold maxLen; omega)
theorem rd_block {W : World} {size : Nat} {cs : List Value} {H n : Nat} (hl : cs.length = n * size) (hn : n ≤ maxLen) (hb : H < W.heap.size) (h : ∀ j u, cs[j]? = some u → W.cell? ⟨H, j, none⟩ = some u) : Rd W size (.slice (some ⟨H, 0, none⟩) n n) cs :=
  ⟨_, n, n, rfl, hl, Nat.le_refl _, hn, fun _ => ⟨H, 0, rfl, hb, fun j u hu => by rw [Nat.zero_add]; exact h j u hu⟩⟩
/-- append(v, u...) as a step of a region that draws its order; the heap does not shrink. -/
theorem stepZ {P : Program} {ops : Array Oper} {o : Oper} {a : Act} {K : Act → World → Prop} {Q : Exit → Act → World → Prop} {E : Prop} (hgd : o.guard = none) (s x : Operand) (t : TypeId)
    (ho : o.op = .call { callee := .builtin .append, args := #[s, x], argTypes := #[t, t] })
    (w0 : World) (e : TypeId) (i : TypeInfo) (z : Value) (size bytes : Nat) (ht : P.underlying t = some (.slice e)) (hi : P.info? e = some i) (hz : i.zero = some z)
    (hsize : i.size = size) (hby : i.bytes = bytes) (hzs : z.cells.size = size) (hsz : 0 < size)
    (v : Value) (n : Nat) (xs : List Value) (hs : a.eval s = v) (wr : World) (hown : wr.ownsRow w0.heap.size e size v n xs) (hg : Grew w0 wr)
    (u : Value) (m : Nat) (cs : List Value) (hx : a.eval x = u) (hu : Rd wr size u cs) (hl : cs.length = m * size) (h1 : ∀ u ∈ cs, u.oneCell' = true)
    (h63 : n + m ≤ maxLen) (hbytes : (n + m) * bytes ≤ 140737488355328)
    (h : ∀ v' w', w'.ownsRow w0.heap.size e size v' (n + m) (xs ++ cs) → Grew w0 w' → (∀ p x, wr.cell? p = some x → some p.block ≠ v.ownBlock → w'.cell? p = some x) → wr.heap.size ≤ w'.heap.size → K (a.put o.dst v') w') : if Region.wanted o (yielded ops a.tmps) = true then Oper.wp P o a wr K Q else E := by
  have hw : Region.wanted o (yielded ops a.tmps) = true := by simp [Region.wanted, hgd]
  rw [if_pos hw]
  obtain ⟨A, m', c, rfl, hl', hmc, _, hr⟩ := hu
  obtain rfl : m' = m := Nat.eq_of_mul_eq_mul_right hsz (hl'.symm.trans hl)
  cases A with
  | none =>
    have hm0 : m' = 0 := by
      rcases Nat.eq_zero_or_pos m' with h0 | h0
      · exact h0
      · obtain ⟨b, off, hA, _⟩ := hr h0
        cases hA
    subst hm0
    have hcs : cs = [] := List.eq_nil_of_length_eq_zero (by omega)
    subst hcs
    have hrun := run_append_none wr w0.heap.size t o.type e i size ht hi v n xs hown c
    unfold Oper.wp execOp
    simp only [ho, resolve, invoke, builtin, Sem.run_bind, Sem.run_pure, Result.andThen_ok, List.map_toArray, List.map_cons, List.map_nil, hs, hx, hrun]
    exact h v wr (by simpa using hown) hg (fun p x hp _ => hp) (Nat.le_refl _)
  | some ad =>
    refine wp_append_own wr s x t ho w0.heap.size e i z size bytes ht hi hz hsize hby hzs hsz v n xs hs hown ad m' c cs hx hl ?_ h1 h63 hbytes hg.size ?_
    · intro j u hu
      have hj := (List.getElem?_eq_some_iff.1 hu).1
      have h0 : 0 < m' := by
        rcases Nat.eq_zero_or_pos m' with h0 | h0
        · subst h0; omega
        · exact h0
      obtain ⟨b, off, hA, _, hcell⟩ := hr h0
      cases hA
      rw [add_lit]
      exact hcell j u hu
    · intro v' w' h2 h3 _
      exact h v' w' h2 (Below.grown hg h3 hg.size (fun k hk => (hown.lt k hk).1)) (fun p x hp hne => h3.cell hp hne) h3.size
theorem insU_at (n : Int) : ∀ (l : List Int) (k : Nat), k ≤ l.length → (∀ j (h : j < l.length), j < k → l[j] < n) → (∀ h : k < l.length, n < l[k]) → insU n l = l.take k ++ n :: l.drop k
  | [], k, hk, _, _ => by
    obtain rfl : k = 0 := by simpa using hk
    rfl
  | x :: r, 0, _, _, h2 => by
    have h := h2 (by simp)
    simp only [List.getElem_cons_zero] at h
    rw [insU, if_neg (by omega), if_neg (by omega)]
    rfl
  | x :: r, k + 1, hk, h1, h2 => by
    have h := h1 0 (by simp) (by omega)
    simp only [List.getElem_cons_zero] at h
    rw [insU, if_pos h, insU_at n r k (by simpa using hk) (fun j hj hjk => by have := h1 (j + 1) (by simpa using hj) (by omega); simpa using this) (fun hj => by have := h2 (by simpa using hj); simpa using this)]
    rfl
theorem insU_in (n : Int) : ∀ (l : List Int) (k : Nat) (hk : k < l.length), (∀ j (h : j < l.length), j < k → l[j] < n) → l[k] = n → insU n l = l
  | [], _, hk, _, _ => absurd hk (Nat.not_lt_zero _)
  | x :: r, 0, _, _, h2 => by
    simp only [List.getElem_cons_zero] at h2
    rw [insU, if_neg (by omega), if_pos h2]
  | x :: r, k + 1, hk, h1, h2 => by
    have h := h1 0 (by simp) (by omega)
    simp only [List.getElem_cons_zero] at h
    rw [insU, if_pos h, insU_in n r k (by simpa using hk) (fun j hj hjk => by have := h1 (j + 1) (by simpa using hj) (by omega); simpa using this) (by simpa using h2)]
end Go.Proofs.YtjaknioojpgkiaaGreatDoor
