/- Lemmas on what the functions of the program and of the library compute: EqO, Ins, InsR, App3, InsI, InsB, Ed1. The conditions stand at each. -/
import Derived.Test.YtafncfomiolmgaaGreatDoorQ3
import Derived.Test.YtafncfomiolmgaaGreatDoorQ7
import Derived.Lib.Overlaps
import Derived.Lib.AppendZerosOnto
import Derived.Laws.CopyOwn
import Derived.Deep.RegionLaw
import Derived.Deep.AppendLies
import Derived.Test.YtafncfomiolmgaaGreatDoorQ1
/- Two operations are equal, or not: the comparison, field by field. No condition. -/
namespace Go.Proofs.YtafncfomiolmgaaGreatDoor
open Go.RowKit

theorem ifok {p : Prop} [Decidable p] {q b : Bool} {X : Result Value} {w : World} (h : X = .ok (.bool b) w) (hq : q = decide p := by first | rfl | rw [Bool.eq_iff_iff, beq_iff_eq, decide_eq_true_eq]) : (if p then X else .ok (.bool false) w) = .ok (.bool (q && b)) w := by
  subst hq
  by_cases hp : p
  · rw [if_pos hp, h, decide_eq_true hp]
    rfl
  · rw [if_neg hp, decide_eq_false hp]
    rfl
theorem iflast {p : Prop} [Decidable p] {q : Bool} {w : World} (hq : q = decide p := by first | rfl | rw [Bool.eq_iff_iff, beq_iff_eq, decide_eq_true_eq]) : (if p then Result.ok (Value.bool true) w else .ok (.bool false) w) = .ok (.bool q) w := by
  subst hq
  by_cases hp : p
  · rw [if_pos hp, decide_eq_true hp]
  · rw [if_neg hp, decide_eq_false hp]
@[go_sem ↓] theorem eqlO (w : World) (x0 y0 x1 y1 x2 y2 x3 y3 x4 y4 x5 y5 x6 y6 : Int) (x7 y7 x8 y8 : ByteArray) (x9 y9 x10 y10 x11 y11 : Int) : (binOp .eql 25 (.agg #[.int .i64 x0, .int .i64 x1, .int .i64 x2, .int .i64 x3, .int .i64 x4, .int .i64 x5, .int .i64 x6, .string x7, .string x8, .int .i64 x9, .int .i64 x10, .int .i64 x11]) (.agg #[.int .i64 y0, .int .i64 y1, .int .i64 y2, .int .i64 y3, .int .i64 y4, .int .i64 y5, .int .i64 y6, .string y7, .string y8, .int .i64 y9, .int .i64 y10, .int .i64 y11])).run Tryz.prog w = .ok (.bool ((x0 == y0) && ((x1 == y1) && ((x2 == y2) && ((x3 == y3) && ((x4 == y4) && ((x5 == y5) && ((x6 == y6) && ((x7.toList == y7.toList) && ((x8.toList == y8.toList) && ((x9 == y9) && ((x10 == y10) && (x11 == y11))))))))))))) w := by
  have hS : Tryz.prog.underlying 25 = some (.struct (Tryz.prog.fieldsOf 25)) := by kernel_rfl
  have hp : Tryz.prog.stoodInHeld 25 = false := by kernel_rfl
  rw [run_eql_struct, show (10000 : Nat) = 9999 + 1 from rfl, run_equalIn_agg w 9999 25 _ _ hS hp]
  simp only [Program.fieldsOf, Tryz.underlying25]
  go_simp
  exact ifok (ifok (ifok (ifok (ifok (ifok (ifok (ifok (ifok (ifok (ifok iflast))))))))))
end Go.Proofs.YtafncfomiolmgaaGreatDoor

/- Laws for copy at elements of several cells. No condition. -/
namespace Go.Proofs.YtafncfomiolmgaaGreatDoor
open Go.RowKit

theorem run_copy_rowk {P : Program} (w : World) (dT sT ty elem : TypeId) (g o dLen dCap : Nat) (a : Addr) (sLen sCap k : Nat) (cur : List Value) (t : TypeId) (cs : List Value)
    (hu : P.underlying dT = some (.slice elem)) (hs : (P.info? elem).map (·.size) = some k) (hg : w.heap[g]? = some (.cells cur.toArray t (0, 0))) (hn : cs.length = Nat.min sLen dLen * k)
    (hsrc : ∀ j v, cs[j]? = some v → w.cell? (a.add j) = some v) (hfit : o + cs.length ≤ cur.length) (h1 : ∀ v ∈ cs, v.oneCell' = true) :
    (Builtin.copy_ #[dT, sT] ty #[.slice (some ⟨g, o, none⟩) dLen dCap, .slice (some a) sLen sCap]).run P w = .ok (goInt (Nat.min sLen dLen)) (w.setRow g (splice cur o cs).toArray) := by
  have hl := run_loadCells_list (P := P) w a cs hsrc
  have hst := run_storeCells_at P g o t cs 0 cur.toArray w hg (by simpa using hfit) h1
  cases hq : P.info? elem with
  | none => simp [hq] at hs
  | some i =>
    have hi : i.size = k := by simpa [hq] using hs
    rw [hn] at hl
    simp [Builtin.copy_, run_underlying hu, Builtin.lenOf, Builtin.firstCells, sizeOf, typeInfo, hq, hi, hl, hst, splice]
/-- copy(d, s) at an operation: d lies in a row that is known whole. -/
theorem copyK {P : Program} {w : World} {ops : Array Oper} {rest : List Oper} {o : Oper} {a : Act} {Q : Exit → Act → World → Prop} (hgd : o.guard = none) (d s : Operand) (dT sT : TypeId)
    (ho : o.op = .call { callee := .builtin .copy, args := #[d, s], argTypes := #[dT, sT] }) (elem : TypeId) (hu : P.underlying dT = some (.slice elem)) (k : Nat) (hsz : (P.info? elem).map (·.size) = some k)
    (g off dLen dCap : Nat) (ad : Addr) (sLen sCap : Nat) (hd : a.eval d = .slice (some ⟨g, off, none⟩) dLen dCap) (hs : a.eval s = .slice (some ad) sLen sCap)
    (cur : List Value) (t : TypeId) (hg : w.heap[g]? = some (.cells cur.toArray t (0, 0))) (cs : List Value) (hn : cs.length = Nat.min sLen dLen * k)
    (hsrc : ∀ j v, cs[j]? = some v → w.cell? (ad.add j) = some v) (hfit : off + cs.length ≤ cur.length) (h1 : ∀ v ∈ cs, v.oneCell' = true) (w0 : World) (hb : Grew w0 w) (hBg : w0.heap.size ≤ g)
    (h : ∀ w', Hid (w'.heap[g]? = some (.cells (splice cur off cs).toArray t (0, 0))) → Hid (Grew w0 w') → Hid (∀ b, b ≠ g → w'.heap[b]? = w.heap[b]?) → wpList P ops Q rest (a.put o.dst (goInt (Nat.min sLen dLen))) w') :
    wpList P ops Q (o :: rest) a w := by
  refine wpList_plain hgd fun K hK => ?_
  have hrun := run_copy_rowk (P := P) w dT sT o.type elem g off dLen dCap ad sLen sCap k cur t cs hu hsz hg hn hsrc hfit h1
  unfold Oper.wp
  simp [execOp, ho, resolve, invoke, builtin, hd, hs, hrun, Result.andThen]
  exact hK _ _ (h _ (setRow_heap w g _ _ t _ hg) (below_setRow hb hBg _) (fun b hb => setRow_other w g b _ hb))
theorem copy_run {P : Program} (w : World) (dT sT : TypeId) (elem : TypeId) (hu : P.underlying dT = some (.slice elem)) (k : Nat) (hsz : (P.info? elem).map (·.size) = some k)
    (g off dLen dCap : Nat) (ad : Addr) (sLen sCap : Nat) (cur : List Value) (t : TypeId) (hg : w.heap[g]? = some (.cells cur.toArray t (0, 0))) (cs : List Value) (hn : cs.length = Nat.min sLen dLen * k)
    (hsrc : ∀ j v, cs[j]? = some v → w.cell? (ad.add j) = some v) (hfit : off + cs.length ≤ cur.length) (h1 : ∀ v ∈ cs, v.oneCell' = true) (w0 : World) (hb : Grew w0 w) (hBg : w0.heap.size ≤ g) :
    ∃ w', (∀ ty, (Builtin.copy_ #[dT, sT] ty #[.slice (some ⟨g, off, none⟩) dLen dCap, .slice (some ad) sLen sCap]).run P w = .ok (goInt (Nat.min sLen dLen)) w') ∧ w'.heap[g]? = some (.cells (splice cur off cs).toArray t (0, 0)) ∧ Grew w0 w' ∧ ∀ b, b ≠ g → w'.heap[b]? = w.heap[b]? :=
  ⟨_, fun ty => run_copy_rowk (P := P) w dT sT ty elem g off dLen dCap ad sLen sCap k cur t cs hu hsz hg hn hsrc hfit h1, setRow_heap w g _ _ t _ hg, below_setRow hb hBg _, fun b hb => setRow_other w g b _ hb⟩
theorem splice_shift {α : Type} (p q r x : List α) (h : x.length ≤ r.length) : splice (splice (p ++ q ++ r) (p.length + x.length) q) p.length x = p ++ x ++ q ++ (p ++ q ++ r).drop (p.length + x.length + q.length) := by
  generalize hC : p ++ q ++ r = C
  have hl : p.length + x.length ≤ C.length := by rw [← hC]; simp; omega
  have hp : C.take p.length = p := by rw [← hC, List.append_assoc, List.take_left]
  have h1 : (splice C (p.length + x.length) q).take p.length = p := by
    unfold splice
    rw [List.take_append_of_le_length (by rw [List.length_take]; omega), List.take_take, Nat.min_eq_left (by omega), hp]
  have h2 : (splice C (p.length + x.length) q).drop (p.length + x.length) = q ++ C.drop (p.length + x.length + q.length) := by
    unfold splice
    rw [List.drop_append_of_le_length (by rw [List.length_take]; omega), List.drop_eq_nil_of_le (by rw [List.length_take]; omega), List.nil_append]
  rw [splice, h1, h2]
  simp
theorem splice_new {α : Type} (p q z x : List α) : splice (splice (p ++ z) p.length x) (p.length + x.length) q = p ++ x ++ q ++ z.drop (x.length + q.length) := by
  have h1 : splice (p ++ z) p.length x = p ++ x ++ z.drop x.length := by
    unfold splice
    rw [List.take_left, List.drop_append, List.drop_eq_nil_of_le (by omega), Nat.add_sub_cancel_left]
    simp
  rw [h1, splice]
  rw [show p.length + x.length = (p ++ x).length by simp, List.take_left, List.drop_append, List.drop_eq_nil_of_le (by omega), Nat.add_sub_cancel_left, List.drop_drop]
  simp
theorem cells_at {w : World} {g : Nat} {cs : List Value} {t : TypeId} {ab : Nat × Nat} (h : w.heap[g]? = some (.cells cs.toArray t ab)) (j : Nat) (v : Value) (hj : cs[j]? = some v) : w.cell? ⟨g, j, none⟩ = some v := by
  rw [cell_of_row _ _ _ _ _ _ h]
  simpa using hj
end Go.Proofs.YtafncfomiolmgaaGreatDoor

/- slices.Insert of one relation, on a row of the call's own. No condition but the sizes that a slice can have. -/
namespace Go.Proofs.YtafncfomiolmgaaGreatDoor
open Go.RowKit

/-- The slice lies, if anywhere, in a block from n on. -/
def Fresh (n : Nat) (v : Value) : Prop := ∀ k, v.ownBlock = some k → n ≤ k
theorem Fresh.nil (n c d : Nat) : Fresh n (.slice none c d) := fun k hk => by simp [Value.ownBlock] at hk
theorem Fresh.at_ {n b o c d : Nat} {s : Option Nat} (h : n ≤ b) : Fresh n (.slice (some ⟨b, o, s⟩) c d) := fun k hk => by simp [Value.ownBlock] at hk; omega
theorem Fresh.own {w : World} {base : Nat} {e : TypeId} {k : Nat} {v : Value} {n : Nat} {xs : List Value} (h : w.ownsRow base e k v n xs) : Fresh base v := fun k hk => (h.lt k hk).1
theorem Fresh.le {m n : Nat} {v : Value} (h : Fresh n v) (hm : m ≤ n) : Fresh m v := fun k hk => Nat.le_trans hm (h k hk)
theorem flat_take {α : Type} {f : α → List Value} {k : Nat} (hk : ∀ x, (f x).length = k) (l : List α) (i : Nat) : (l.flatMap f).take (i * k) = (l.take i).flatMap f ∧ (l.flatMap f).drop (i * k) = (l.drop i).flatMap f := by
  induction l generalizing i with
  | nil => simp
  | cons x r ih =>
    cases i with
    | zero => simp
    | succ i =>
      have e : (i + 1) * k = (f x).length + i * k := by rw [hk, Nat.succ_mul]; omega
      rw [List.flatMap_cons, e, List.take_length_add_append, List.drop_length_add_append, (ih i).1, (ih i).2]
      simp
end Go.Proofs.YtafncfomiolmgaaGreatDoor

/- append of a slice, nil let in, to an empty list that was just made. No condition but the sizes that a slice can have. -/
namespace Go.Proofs.YtafncfomiolmgaaGreatDoor
open Go.RowKit

/-- The slice lies, if anywhere, in a block from n on that is there. -/
def Lies (n : Nat) (w : World) (v : Value) : Prop := ∀ k, v.ownBlock = some k → n ≤ k ∧ k < w.heap.size
theorem Lies.mono {n : Nat} {w w' : World} {v : Value} (h : Lies n w v) (hs : w.heap.size ≤ w'.heap.size) : Lies n w' v := fun k hk => ⟨(h k hk).1, Nat.lt_of_lt_of_le (h k hk).2 hs⟩
theorem rd_grown {w w' : World} {row : Option Nat} {k : Nat} {v : Value} {cs : List Value} (h : Rd w k v cs) (hg : w.grownBy w' row) (hr : ∀ b, v.ownBlock = some b → row ≠ some b) : Rd w' k v cs := by
  obtain ⟨A, n, c, rfl, hl, hn, hc, h0⟩ := h
  refine ⟨A, n, c, rfl, hl, hn, hc, fun hp => ?_⟩
  obtain ⟨b, off, rfl, hb, hcell⟩ := h0 hp
  exact ⟨b, off, rfl, Nat.lt_of_lt_of_le hb hg.size, fun j u hu => hg.cell (hcell j u hu) (fun e => hr b rfl e.symm)⟩
end Go.Proofs.YtafncfomiolmgaaGreatDoor

/- slices.Insert of one number, on a row of the call's own, with a word on all other blocks. No condition but the sizes that a slice can have. -/
namespace Go.Proofs.YtafncfomiolmgaaGreatDoor
open Go.RowKit

/-- The call returns a slice that owns cs from base on, in the row where s lay or in a new one; all other blocks are as they were. -/
def RetRow3 (e : TypeId) (k : Nat) (cs : List Value) (n base : Nat) (s : Value) (w : World) (x : Ending) (w' : World) : Prop := ∃ v, x = .returned v ∧ w'.ownsRow base e k v n cs ∧ w.grownBy w' s.ownBlock ∧ (v.ownBlock = s.ownBlock ∨ ∀ b, v.ownBlock = some b → w.heap.size ≤ b)
theorem grown_of {w0 w w' : World} {g : Nat} {o : Obj} (h : Grew w0 w) (h' : Grew w0 w') (hg : w'.heap[g]? = some o) (hk : ∀ b, b ≠ g → w'.heap[b]? = w.heap[b]?) : w.grownBy w' (some g) := by
  refine ⟨h'.os.trans h.os.symm, h'.tape.trans h.tape.symm, h'.output.trans h.output.symm, ?_, fun k _ hne => hk k (fun e => hne (by rw [e]))⟩
  refine Nat.le_of_not_lt fun hlt => ?_
  have hgl := (Array.getElem?_eq_some_iff.1 hg).1
  have h1 := hk w'.heap.size (by omega)
  rw [Array.getElem?_eq_none (Nat.le_refl _), Array.getElem?_eq_getElem hlt] at h1
  cases h1
theorem grown_grew {w w' : World} (h : Grew w w') (row : Option Nat) : w.grownBy w' row := ⟨h.os, h.tape, h.output, h.size, fun k hk _ => h.block k hk⟩
theorem grew_trans_grown {a b c : World} {row : Option Nat} (h : Grew a b) (k : b.grownBy c row) : a.grownBy c row := (grown_grew h row).trans k
theorem own_splice {w : World} {g base n cap k : Nat} {e : TypeId} {cur xs : List Value} (hb : base ≤ g) (hg : w.heap[g]? = some (.cells cur.toArray e (0, 0))) (hn : n ≤ cap) (hc : cap ≤ maxLen) (hs : cur.length = cap * k) (hx : xs.length = n * k) (ht : ∃ r, cur = xs ++ r) : w.ownsRow base e k (.slice (some ⟨g, 0, none⟩) n cap) n xs := by
  obtain ⟨r, rfl⟩ := ht
  refine ⟨hx, .inr ⟨g, cap, _, rfl, hb, hg, hn, hc, by simpa using hs, ?_⟩⟩
  rw [← hx]
  simp
theorem sizeI (w : World) : (Go.sizeOf 3).run Tryz.prog w = .ok 1 w := by kernel_rfl
theorem infoSzI : (Tryz.prog.info? 3).map (·.size) = some 1 := by kernel_rfl
theorem overlapsI (w : World) (g vb o : Nat) (hne : vb ≠ g) (cur xc : List Value) (hg : w.heap[g]? = some (.cells cur.toArray 3 (0, 0))) (hv : w.heap[vb]? = some (.cells xc.toArray 3 (0, 0))) (hpos : 0 < cur.length) (lb cb : Nat) :
    (callFunc 173 #[.slice (some ⟨vb, 0, none⟩) 1 1, .slice (some ⟨g, o, none⟩) lb cb]).run Tryz.prog w = .ok (.value (.bool false)) w := by
  rw [run_callFunc_extern Tryz.func173 (by kernel_rfl) (by kernel_rfl) (by kernel_rfl) (e := Extern.SlicesOverlaps.overlaps #[32, 32] #[4]) (by kernel_rfl),
    Lib.run_overlaps_apart w 32 4 3 Tryz.underlying32 1 sizeI ⟨vb, 0, none⟩ ⟨g, o, none⟩ 1 1 lb cb hne 3 3 xc.toArray.size cur.toArray.size (by simp [World.shape?, hv]) (by simp [World.shape?, hg]) (by simp only [List.size_toArray]; omega) (by simp [World.frozen?, hv]) (by simp [World.frozen?, hv])]
  rfl
set_option maxHeartbeats 4000000 in
set_option maxRecDepth 100000 in
/-- There is room. -/
theorem insShiftI (w0 : World) (g cap n i vb : Nat) (cur p q r xc : List Value) (w : World) (hi : i < n) (hroom : n + 1 ≤ cap) (hc : cap ≤ maxLen) (hne : vb ≠ g) (hG : Grew w0 w) (hbg : w0.heap.size ≤ g)
    (hg : w.heap[g]? = some (.cells cur.toArray 3 (0, 0))) (hcur : cur = p ++ q ++ r) (hp : p.length = i) (hq : q.length = (n - i)) (hr : 1 ≤ r.length) (hcl : cur.length = cap)
    (hv : w.heap[vb]? = some (.cells xc.toArray 3 (0, 0))) (hx : xc.length = 1) (h1c : ∀ v ∈ q, v.oneCell' = true) (h1x : ∀ v ∈ xc, v.oneCell' = true) :
    Calls Tryz.prog 137 #[.slice (some ⟨g, 0, none⟩) n cap, .int .i64 i, .slice (some ⟨vb, 0, none⟩) 1 1] w (RetRow3 3 1 (p ++ xc ++ q) (n + 1) w0.heap.size (.slice (some ⟨g, 0, none⟩) n cap) w) := by
  have hlen : cur.length = i + (n - i) + r.length := by rw [hcur]; simp only [List.length_append, hp, hq]
  unfold maxLen at hc
  have hov := fun lb cb => overlapsI w g vb ((i + 1)) hne cur xc hg hv (by omega) lb cb
  have hz1 : ¬ ((i : Int) = (n : Int)) := by omega
  have hb2 : ¬ (cap = i + 1) := by omega
  have hb3 : (i : Int) ≤ (n : Int) + 1 := by omega
  have hb4 : ¬ (cap = i) := by omega
  have hin : i ≤ n := by omega
  have HG0 := Lib.hid hg
  have HV := Lib.hid hv
  have HC := Lib.hid hcur
  have HPQ := Lib.hid (show p.length = i ∧ q.length = (n - i) ∧ 1 ≤ r.length ∧ xc.length = 1 from ⟨hp, hq, hr, hx⟩)
  have H1 := Lib.hid (show (∀ v ∈ q, v.oneCell' = true) ∧ (∀ v ∈ xc, v.oneCell' = true) from ⟨h1c, h1x⟩)
  have HCL := Lib.hid hcl
  clear hg hv hcur hp hq hr hx h1c h1x hlen hcl
  go_enter Tryz.func137, Tryz.ntmps137
  go_wp2_with (simp only [hov])
  have hw1 : IntKind.i64.wrap ((i : Int) + 1) = (i : Int) + 1 := IntWalk.i64_in _ (by omega)
  have hb1 : (0 : Int) ≤ (i : Int) + 1 := by omega
  have htn : ((i : Int) + 1).toNat = i + 1 := by omega
  have hb5 : (i : Int) + 1 ≤ (n : Int) + 1 := by omega
  have h0i : (0 : Int) ≤ (i : Int) := by omega
  refine region_still_tail 8 (by kernel_rfl) (by kernel_rfl) ?_
  simp only [List.take_succ_cons, List.take_zero, List.drop_succ_cons, List.drop_zero]
  iterate 8 still_step
  clear hw1 hb1 htn hb5
  refine wpStill_nil ?_
  refine copyK rfl _ _ 32 32 rfl 3 Tryz.underlying32 1 infoSzI g ((i + 1)) (n - i) (cap - (i + 1)) ⟨g, i, none⟩ (n + 1 - i) (cap - i) (by rfl) (by rfl) cur 3 (by have := HG0.out; exact this) q ?_ ?_ ?_ ?_ w0 (by exact hG.drew) hbg ?_
  · rw [HPQ.out.2.1]
    congr 1
    simp only [Nat.min_def]
    split <;> omega
  · intro j v hj
    rw [add_lit]
    refine cells_at HG0.out (i + j) v ?_
    rw [HC.out, List.append_assoc, ← HPQ.out.1, List.getElem?_append_right (by omega), Nat.add_sub_cancel_left, List.getElem?_append_left (List.getElem?_eq_some_iff.1 hj).1]
    exact hj
  · have h1 := HPQ.out
    rw [HC.out]
    simp only [List.length_append]
    omega
  · exact fun v hv => H1.out.1 v hv
  intro w1 HG1 HW1 HK1
  have hvb1 : w1.heap[vb]? = some (.cells xc.toArray 3 (0, 0)) := (HK1.out vb hne).trans HV.out
  obtain ⟨w2, hrun, hg2, hG2, hk2⟩ := copy_run (P := Tryz.prog) w1 32 32 3 Tryz.underlying32 1 infoSzI g (i) (n + 1 - i) (cap - i) ⟨vb, 0, none⟩ 1 1 _ 3 HG1.out xc (by
      rw [HPQ.out.2.2.2]
      have : Nat.min 1 (n + 1 - i) = 1 := by simp only [Nat.min_def]; split <;> omega
      rw [this]) (fun j v hj => by rw [add_lit, Nat.zero_add]; exact cells_at hvb1 j v hj) (by
      have h1 := HPQ.out
      rw [length_splice _ _ _ (by rw [HC.out]; simp only [List.length_append]; omega), HC.out]
      simp only [List.length_append]
      omega) H1.out.2 w0 HW1.out hbg
  have HFin : RowKit.Hid (w2.ownsRow w0.heap.size 3 1 (.slice (some ⟨g, 0, none⟩) (n + 1) cap) (n + 1) (p ++ xc ++ q)) := by
    have h1 := HPQ.out
    have hs := splice_shift p q r xc (by omega)
    rw [h1.1, h1.2.2.2, ← HC.out, show i + 1 = (i + 1) by omega] at hs
    refine own_splice hbg hg2 (by omega) (by unfold maxLen; omega) ?_ (by simp only [List.length_append]; omega) ⟨_, hs⟩
    rw [length_splice _ _ _ (by rw [length_splice _ _ _ (by rw [HC.out]; simp only [List.length_append]; omega), HC.out]; simp only [List.length_append]; omega), length_splice _ _ _ (by rw [HC.out]; simp only [List.length_append]; omega)]
    have := HCL.out
    omega
  have HGR := Lib.hid (grown_of hG hG2 hg2 (fun b hb => (hk2 b hb).trans (HK1.out b hb)))
  clear hg2 hG2 hvb1 hk2
  go_wp2
  go_ret
  exact ⟨_, rfl, HFin.out, HGR.out, .inl rfl⟩
/-- The row that append(s[:i], make(..)...) gives where there is no room. -/
theorem zerosI (w : World) (g cap n i : Nat) (cur p q : List Value) (hi : i < n) (hnc : n ≤ cap) (hroom : cap < n + 1) (hn : n ≤ 1000000) (hg : w.heap[g]? = some (.cells cur.toArray 3 (0, 0))) (hcur : ∃ r, cur = p ++ q ++ r) (hp : p.length = i) :
    ∃ (G : Nat) (Z : List Value) (w1 : World), (∀ ty, (Builtin.append_ #[32, 3] ty #[.slice (some ⟨g, 0, none⟩) i cap, .int .i64 ((n : Int) + 1 - (i : Int))]).run Tryz.prog w = .ok (.slice (some ⟨w.heap.size, 0, none⟩) (n + 1) G) w1) ∧
      n + 1 ≤ G ∧ G ≤ maxLen ∧ w1.heap[w.heap.size]? = some (.cells (p ++ Z).toArray 3 (0, 0)) ∧ (n + 1 - i) ≤ Z.length ∧ i + Z.length = G ∧ Grew w w1 := by
  obtain ⟨i0, hi0, hz0, hz1, hz2⟩ := info_parts cinfoI
  obtain ⟨r, hcur⟩ := hcur
  have hkk : (n : Int) + 1 - (i : Int) = ((n + 1 - i : Nat) : Int) := by omega
  have hik : i + (n + 1 - i) = n + 1 := by omega
  have hold : (Builtin.firstCells i0.size i (.slice (some ⟨g, 0, none⟩) i cap)).run Tryz.prog w.drew = .ok p.toArray w.drew := by
    rw [hz1]
    refine run_firstCells_some w.drew 1 i ⟨g, 0, none⟩ i cap p (by omega) (fun j v hj => ?_)
    rw [add_lit, Nat.zero_add]
    refine cells_at (w := w.drew) hg j v ?_
    rw [hcur, List.append_assoc, List.getElem?_append_left (List.getElem?_eq_some_iff.1 hj).1]
    exact hj
  have h := fun ty => Lib.run_append_grow_zeros w 32 3 ty 3 i0 _ .i64 .i64 Tryz.underlying32 Tryz.underlying3 hi0 hz0 (some ⟨g, 0, none⟩) i cap p hold (n + 1 - i) (by omega) (by omega) (by omega) (by omega) (by rw [hz2]; omega) (by rw [hz2, hik]; exact growslice_fits hroom (by omega))
  simp only [hik] at h
  rw [hkk]
  obtain ⟨ZC, hZC⟩ : ∃ ZC, ZC = (Value.int .i64 0).cells := ⟨_, rfl⟩
  have hZs : ZC.size = 1 := by rw [hZC]; rfl
  rw [← hZC] at h
  refine ⟨_, (Builtin.zeroCells ZC (n + 1 - i) ++ Builtin.zeroCells ZC (grownCap w (n + 1) cap 3 - (n + 1))).toList, _, h, grownCap_ge w _ _ _, grownCap_le_maxLen w (n + 1) cap _ (by unfold maxLen; omega), ?_, ?_, ?_, (Grew.refl w).drew.alloc _⟩
  · have := heap_alloc_last w.drew (.cells (p.toArray ++ Builtin.zeroCells ZC (n + 1 - i) ++ Builtin.zeroCells ZC (grownCap w (n + 1) cap 3 - (n + 1))) 3 (0, 0))
    rw [show (p ++ (Builtin.zeroCells ZC (n + 1 - i) ++ Builtin.zeroCells ZC (grownCap w (n + 1) cap 3 - (n + 1))).toList).toArray = p.toArray ++ Builtin.zeroCells ZC (n + 1 - i) ++ Builtin.zeroCells ZC (grownCap w (n + 1) cap 3 - (n + 1)) by simp [Array.append_assoc]]
    exact this
  · simp [Builtin.zeroCells, hZs]
  · have h9 := grownCap_ge w (n + 1) cap 3
    simp only [Builtin.zeroCells, hZs, Array.toList_append, List.length_append, Array.length_toList, Array.size_map, Array.size_range]
    omega
set_option maxHeartbeats 4000000 in
set_option maxRecDepth 100000 in
/-- There is no room. -/
theorem insGrowI (w0 : World) (g cap n i vb : Nat) (cur p q r xc : List Value) (w : World) (hi : i < n) (hnc : n ≤ cap) (hroom : cap < n + 1) (hn : n ≤ 1000000) (hG : Grew w0 w)
    (hg : w.heap[g]? = some (.cells cur.toArray 3 (0, 0))) (hcur : cur = p ++ q ++ r) (hp : p.length = i) (hq : q.length = (n - i))
    (hv : w.heap[vb]? = some (.cells xc.toArray 3 (0, 0))) (hx : xc.length = 1) (h1c : ∀ v ∈ q, v.oneCell' = true) (h1x : ∀ v ∈ xc, v.oneCell' = true) :
    Calls Tryz.prog 137 #[.slice (some ⟨g, 0, none⟩) n cap, .int .i64 i, .slice (some ⟨vb, 0, none⟩) 1 1] w (RetRow3 3 1 (p ++ xc ++ q) (n + 1) w0.heap.size (.slice (some ⟨g, 0, none⟩) n cap) w) := by
  obtain ⟨G, Z, w1, hrun1, hG1, hG2, hh1, hZ, hZl, hgr1⟩ := zerosI w g cap n i cur p q hi hnc hroom hn hg ⟨r, hcur⟩ hp
  unfold maxLen at hG2
  have hglt : g < w.heap.size := (Array.getElem?_eq_some_iff.1 hg).1
  have hvlt : vb < w.heap.size := (Array.getElem?_eq_some_iff.1 hv).1
  have hv1 : w1.heap[vb]? = some (.cells xc.toArray 3 (0, 0)) := (hgr1.block vb hvlt).trans hv
  have hg1 : w1.heap[g]? = some (.cells cur.toArray 3 (0, 0)) := (hgr1.block g hglt).trans hg
  have hmin : Nat.min 1 (n + 1 - i) = 1 := by simp only [Nat.min_def]; split <;> omega
  obtain ⟨w2, hrun2, hh2, hgr2, hk2⟩ := copy_run (P := Tryz.prog) w1 32 32 3 Tryz.underlying32 1 infoSzI w.heap.size (i) (n + 1 - i) (G - i) ⟨vb, 0, none⟩ 1 1 _ 3 hh1 xc (by rw [hx, hmin]) (fun j v hj => by rw [add_lit, Nat.zero_add]; exact cells_at hv1 j v hj) (by rw [List.length_append, hp, hx]; omega) h1x w hgr1 (Nat.le_refl _)
  have hg2 : w2.heap[g]? = some (.cells cur.toArray 3 (0, 0)) := (hk2 g (by omega)).trans hg1
  have hz1 : ¬ ((i : Int) = (n : Int)) := by omega
  have hz3 : (cap : Int) < (n : Int) + 1 := by omega
  have hb2 : ¬ (G = i + 1) := by omega
  have hb3 : (i : Int) ≤ (n : Int) + 1 := by omega
  have hb4 : ¬ (cap = i) := by omega
  have hb5 : ¬ (G = i) := by omega
  have hin : i ≤ n := by omega
  have hin2 : (i : Int) ≤ (n : Int) := by omega
  have HR2 := Lib.hid (show w2.heap[w.heap.size]? = _ ∧ w2.heap[g]? = _ ∧ Grew w w2 from ⟨hh2, hg2, hgr2⟩)
  have HC := Lib.hid hcur
  have HPQ := Lib.hid (show p.length = i ∧ q.length = (n - i) ∧ xc.length = 1 ∧ (n + 1 - i) ≤ Z.length ∧ i + Z.length = G from ⟨hp, hq, hx, hZ, hZl⟩)
  have H1 := Lib.hid (show (∀ v ∈ q, v.oneCell' = true) ∧ (∀ v ∈ xc, v.oneCell' = true) from ⟨h1c, h1x⟩)
  clear hg hv hcur hp hq hx h1c h1x hh1 hZ hZl hgr1 hv1 hg1 hmin hh2 hgr2 hk2 hg2 hglt hvlt
  obtain ⟨H, hH⟩ : ∃ H, H = w.heap.size := ⟨_, rfl⟩
  rw [← hH] at HR2 hrun1 hrun2
  have HH := Lib.hid hH
  clear hH
  go_enter Tryz.func137, Tryz.ntmps137
  go_wp2_with (at_builtin; refine Lib.wpList_append_run _ rfl _ _ _ _ rfl _ _ rfl rfl _ _ (hrun1 _) ?_)
  have hw1 : IntKind.i64.wrap ((i : Int) + 1) = (i : Int) + 1 := IntWalk.i64_in _ (by omega)
  have hb6 : (0 : Int) ≤ (i : Int) + 1 := by omega
  have htn : ((i : Int) + 1).toNat = i + 1 := by omega
  have hb7 : (i : Int) + 1 ≤ (n : Int) + 1 := by omega
  have h0i : (0 : Int) ≤ (i : Int) := by omega
  refine region_still_tail 8 (by kernel_rfl) (by kernel_rfl) ?_
  simp only [List.take_succ_cons, List.take_zero, List.drop_succ_cons, List.drop_zero]
  iterate 8 still_step
  clear hw1 hb6 htn hb7
  refine wpStill_nil ?_
  refine copyK rfl _ _ 32 32 rfl 3 Tryz.underlying32 1 infoSzI H ((i + 1)) (n - i) (G - (i + 1)) ⟨g, i, none⟩ (n - i) (cap - i) (by rfl) (by rfl) _ 3 (by have := HR2.out.1; exact this) q ?_ ?_ ?_ ?_ w (by exact HR2.out.2.2.drew) (by rw [HH.out]; exact Nat.le_refl _) ?_
  · rw [HPQ.out.2.1]
    congr 1
    simp only [Nat.min_def]
    split <;> omega
  · intro j v hj
    rw [add_lit]
    refine cells_at (w := w2.drew) HR2.out.2.1 (i + j) v ?_
    rw [HC.out, List.append_assoc, ← HPQ.out.1, List.getElem?_append_right (by omega), Nat.add_sub_cancel_left, List.getElem?_append_left (List.getElem?_eq_some_iff.1 hj).1]
    exact hj
  · have h1 := HPQ.out
    rw [length_splice _ _ _ (by rw [List.length_append]; omega), List.length_append]
    omega
  · exact fun v hv => H1.out.1 v hv
  intro w3 HG3 HW3 HK3
  have HFin : RowKit.Hid (w3.ownsRow w0.heap.size 3 1 (.slice (some ⟨H, 0, none⟩) (n + 1) G) (n + 1) (p ++ xc ++ q)) := by
    have h1 := HPQ.out
    have hs := splice_new p q Z xc
    rw [h1.1, h1.2.2.1, show i + 1 = (i + 1) by omega] at hs
    refine own_splice (by rw [HH.out]; exact hG.size) HG3.out (by omega) (by unfold maxLen; omega) ?_ (by simp only [List.length_append]; omega) ⟨_, hs⟩
    rw [length_splice _ _ _ (by rw [length_splice _ _ _ (by rw [List.length_append]; omega), List.length_append]; omega), length_splice _ _ _ (by rw [List.length_append]; omega), List.length_append, h1.1]
    have := h1.2.2.2.2
    omega
  go_wp2
  go_ret
  exact ⟨_, rfl, HFin.out, grown_grew HW3.out _, .inr fun b hb => by simp [Value.ownBlock] at hb; rw [← hb, HH.out]; exact Nat.le_refl _⟩
set_option maxHeartbeats 4000000 in
set_option maxRecDepth 100000 in
/-- At the end. -/
theorem insEndI (w0 : World) (n vb : Nat) (xs xc : List Value) (v : Value) (w : World) (hown : w.ownsRow w0.heap.size 3 1 v n xs) (hG : Grew w0 w) (hl : n ≤ 1000000)
    (hv : w.heap[vb]? = some (.cells xc.toArray 3 (0, 0))) (hx : xc.length = 1) (h1x : ∀ v ∈ xc, v.oneCell' = true) :
    Calls Tryz.prog 137 #[v, .int .i64 n, .slice (some ⟨vb, 0, none⟩) 1 1] w (RetRow3 3 1 (xs ++ xc) (n + 1) w0.heap.size v w) := by
  obtain ⟨i0, hi, hz0, hz1, hz2⟩ := info_parts cinfoI
  have HO := Lib.hid hown
  have HV := Lib.hid (fun j u hj => (by rw [Nat.zero_add]; exact cells_at hv j u hj : w.cell? ⟨vb, 0 + j, none⟩ = some u))
  have HX := Lib.hid (show xc.length = 1 * 1 from hx)
  have H1 := Lib.hid h1x
  have hf : ∃ (A : Option Addr) (c : Nat), v = .slice A n c ∧ n ≤ c ∧ c ≤ maxLen ∧ (A = none → n = 0 ∧ c = 0) := by
    rcases hown.2 with ⟨rfl, rfl⟩ | ⟨g, cap, cur, rfl, _, _, h1, h2, _⟩
    · exact ⟨_, _, rfl, Nat.le_refl _, Nat.zero_le _, fun _ => ⟨rfl, rfl⟩⟩
    · exact ⟨_, _, rfl, h1, h2, fun h => by cases h⟩
  obtain ⟨A, c, rfl, hnc, hc, hA⟩ := hf
  unfold maxLen at hc
  clear hown hv hx h1x
  cases A with
  | none =>
    obtain ⟨rfl, rfl⟩ := hA rfl
    clear hA
    go_enter Tryz.func137, Tryz.ntmps137
    go_wp2_with (at_builtin; refine wpList_append_lies _ rfl _ _ 32 rfl w0.heap.size 3 i0 (.int .i64 0) 1 8 Tryz.underlying32 hi hz0 hz1 hz2 rfl (by omega) _ _ _ (by rfl) HO.out ⟨vb, 0, none⟩ 1 1 xc (by rfl) HX.out (fun j u hj => by rw [add_lit]; exact HV.out j u hj) H1.out (by omega) (by unfold maxLen; omega) (by omega) hG.size w.heap.size rfl ?_; intro g3 cap3 w3 hown3 hgr3 hat3 hlt3)
    go_ret
    exact ⟨_, rfl, hown3, hgr3, hat3.imp (fun h => h.symm) (fun h b hb => by simp [Value.ownBlock] at hb; omega)⟩
  | some a =>
    clear hA
    by_cases hcn : c = n
    · subst hcn
      go_enter Tryz.func137, Tryz.ntmps137
      go_wp2_with (at_builtin; refine wpList_append_lies _ rfl _ _ 32 rfl w0.heap.size 3 i0 (.int .i64 0) 1 8 Tryz.underlying32 hi hz0 hz1 hz2 rfl (by omega) _ _ _ (by rfl) HO.out ⟨vb, 0, none⟩ 1 1 xc (by rfl) HX.out (fun j u hj => by rw [add_lit]; exact HV.out j u hj) H1.out (by omega) (by unfold maxLen; omega) (by omega) hG.size w.heap.size rfl ?_; intro g3 cap3 w3 hown3 hgr3 hat3 hlt3)
      go_ret
      exact ⟨_, rfl, hown3, hgr3, hat3.imp (fun h => h.symm) (fun h b hb => by simp [Value.ownBlock] at hb; omega)⟩
    · go_enter Tryz.func137, Tryz.ntmps137
      go_wp2_with (at_builtin; refine wpList_append_lies _ rfl _ _ 32 rfl w0.heap.size 3 i0 (.int .i64 0) 1 8 Tryz.underlying32 hi hz0 hz1 hz2 rfl (by omega) _ _ _ (by rfl) HO.out ⟨vb, 0, none⟩ 1 1 xc (by rfl) HX.out (fun j u hj => by rw [add_lit]; exact HV.out j u hj) H1.out (by omega) (by unfold maxLen; omega) (by omega) hG.size w.heap.size rfl ?_; intro g3 cap3 w3 hown3 hgr3 hat3 hlt3)
      go_ret
      exact ⟨_, rfl, hown3, hgr3, hat3.imp (fun h => h.symm) (fun h b hb => by simp [Value.ownBlock] at hb; omega)⟩
/-- slices.Insert(s, i, x) on a row of the call's own. -/
theorem insertI (w0 : World) (l : List Int) (x : Int) (i vb : Nat) (v : Value) (w : World) (hown : w.ownsRow w0.heap.size 3 1 v l.length (l.flatMap oneI)) (hG : Grew w0 w) (hi : i ≤ l.length) (hl : l.length ≤ 1000000)
    (hv : w.heap[vb]? = some (.cells (oneI x).toArray 3 (0, 0))) (hne : some vb ≠ v.ownBlock) :
    Calls Tryz.prog 137 #[v, .int .i64 i, .slice (some ⟨vb, 0, none⟩) 1 1] w (RetRow3 3 1 ((l.take i ++ [x] ++ l.drop i).flatMap oneI) (l.length + 1) w0.heap.size v w) := by
  have hx1 : ∀ v ∈ (oneI x), v.oneCell' = true := fun v hv => one_cellsI [x] v (by simpa using hv)
  have hxl : (oneI x).length = 1 := rfl
  obtain ⟨ht, hd⟩ := flat_take (f := oneI) (k := 1) (fun _ => rfl) l i
  rw [Nat.mul_one] at ht hd
  have hfl := flatMap_len oneI 1 (fun _ => rfl) l
  by_cases e : i = l.length
  · subst e
    have := insEndI w0 l.length vb (l.flatMap oneI) (oneI x) v w hown hG hl hv hxl hx1
    simpa [List.flatMap_append] using this
  · rcases hown.2 with ⟨_, h0⟩ | ⟨g, cap, cur, rfl, hbg, hh, h1, h2, h3, h4⟩
    · omega
    have hres : (l.take i ++ [x] ++ l.drop i).flatMap oneI = (l.flatMap oneI).take (i) ++ (oneI x) ++ (l.flatMap oneI).drop (i) := by
      rw [ht, hd]; simp [List.flatMap_append]
    have hcur : cur.toList = (l.flatMap oneI).take (i) ++ (l.flatMap oneI).drop (i) ++ cur.toList.drop (l.length * 1) := by
      rw [List.take_append_drop, ← h4, List.take_append_drop]
    have hh' : w.heap[g]? = some (.cells cur.toList.toArray 3 (0, 0)) := by simpa using hh
    have hp : ((l.flatMap oneI).take (i)).length = i := by rw [List.length_take, hfl]; omega
    have hq : ((l.flatMap oneI).drop i).length = l.length - i := by rw [List.length_drop, hfl]; omega
    have hne' : vb ≠ g := fun h => hne (by rw [h]; rfl)
    have hq1 : ∀ v ∈ (l.flatMap oneI).drop (i), v.oneCell' = true := fun v hv => one_cellsI l v (List.mem_of_mem_drop hv)
    rw [hres]
    by_cases hroom : l.length + 1 ≤ cap
    · exact insShiftI w0 g cap l.length i vb _ _ _ _ _ w (by omega) hroom h2 hne' hG hbg hh' hcur hp hq (by rw [List.length_drop, Array.length_toList, h3]; omega) (by simpa using h3) hv hxl hq1 hx1
    · exact insGrowI w0 g cap l.length i vb _ _ _ _ _ w (by omega) h1 (by omega) hl hG hh' hcur hp hq hv hxl hq1 hx1
end Go.Proofs.YtafncfomiolmgaaGreatDoor

/- slices.Insert of one branch, on a row of the call's own, with a word on all other blocks. No condition but the sizes that a slice can have. -/
namespace Go.Proofs.YtafncfomiolmgaaGreatDoor
open Go.RowKit

theorem cinfoB : (Tryz.prog.info? 53).map (fun i => (i.zero, i.size, i.bytes)) = some (some (.agg #[.int .i64 0, .int .i64 0, .int .i64 0, .string ⟨#[]⟩, .string ⟨#[]⟩, .slice none 0 0]), 6, 80) := by kernel_rfl
theorem one_cellsB (l : List BrC) (h : ∀ c ∈ l, c.kv.oneCell' = true) : ∀ u ∈ l.flatMap BrC.cells, u.oneCell' = true := by
  intro u hu
  rw [List.mem_flatMap] at hu
  obtain ⟨x, hx0, hx⟩ := hu
  simp [BrC.cells] at hx
  rcases hx with rfl | rfl | rfl | rfl | rfl | rfl
  all_goals first | rfl | exact h x hx0
theorem sizeB (w : World) : (Go.sizeOf 53).run Tryz.prog w = .ok 6 w := by kernel_rfl
theorem infoSzB : (Tryz.prog.info? 53).map (·.size) = some 6 := by kernel_rfl
theorem overlapsB (w : World) (g vb o : Nat) (hne : vb ≠ g) (cur xc : List Value) (hg : w.heap[g]? = some (.cells cur.toArray 53 (0, 0))) (hv : w.heap[vb]? = some (.cells xc.toArray 53 (0, 0))) (hpos : 0 < cur.length) (lb cb : Nat) :
    (callFunc 135 #[.slice (some ⟨vb, 0, none⟩) 1 1, .slice (some ⟨g, o, none⟩) lb cb]).run Tryz.prog w = .ok (.value (.bool false)) w := by
  rw [run_callFunc_extern Tryz.func135 (by kernel_rfl) (by kernel_rfl) (by kernel_rfl) (e := Extern.SlicesOverlaps.overlaps #[33, 33] #[4]) (by kernel_rfl),
    Lib.run_overlaps_apart w 33 4 53 Tryz.underlying33 6 sizeB ⟨vb, 0, none⟩ ⟨g, o, none⟩ 1 1 lb cb hne 53 53 xc.toArray.size cur.toArray.size (by simp [World.shape?, hv]) (by simp [World.shape?, hg]) (by simp only [List.size_toArray]; omega) (by simp [World.frozen?, hv]) (by simp [World.frozen?, hv])]
  rfl
set_option maxHeartbeats 4000000 in
set_option maxRecDepth 100000 in
/-- There is room. -/
theorem insShiftB (w0 : World) (g cap n i vb : Nat) (cur p q r xc : List Value) (w : World) (hi : i < n) (hroom : n + 1 ≤ cap) (hc : cap ≤ maxLen) (hne : vb ≠ g) (hG : Grew w0 w) (hbg : w0.heap.size ≤ g)
    (hg : w.heap[g]? = some (.cells cur.toArray 53 (0, 0))) (hcur : cur = p ++ q ++ r) (hp : p.length = i * 6) (hq : q.length = (n - i) * 6) (hr : 6 ≤ r.length) (hcl : cur.length = cap * 6)
    (hv : w.heap[vb]? = some (.cells xc.toArray 53 (0, 0))) (hx : xc.length = 6) (h1c : ∀ v ∈ q, v.oneCell' = true) (h1x : ∀ v ∈ xc, v.oneCell' = true) :
    Calls Tryz.prog 91 #[.slice (some ⟨g, 0, none⟩) n cap, .int .i64 i, .slice (some ⟨vb, 0, none⟩) 1 1] w (RetRow3 53 6 (p ++ xc ++ q) (n + 1) w0.heap.size (.slice (some ⟨g, 0, none⟩) n cap) w) := by
  have hlen : cur.length = i * 6 + (n - i) * 6 + r.length := by rw [hcur]; simp only [List.length_append, hp, hq]
  unfold maxLen at hc
  have hov := fun lb cb => overlapsB w g vb ((i + 1) * 6) hne cur xc hg hv (by omega) lb cb
  have hz1 : ¬ ((i : Int) = (n : Int)) := by omega
  have hb2 : ¬ (cap = i + 1) := by omega
  have hb3 : (i : Int) ≤ (n : Int) + 1 := by omega
  have hb4 : ¬ (cap = i) := by omega
  have hin : i ≤ n := by omega
  have HG0 := Lib.hid hg
  have HV := Lib.hid hv
  have HC := Lib.hid hcur
  have HPQ := Lib.hid (show p.length = i * 6 ∧ q.length = (n - i) * 6 ∧ 6 ≤ r.length ∧ xc.length = 6 from ⟨hp, hq, hr, hx⟩)
  have H1 := Lib.hid (show (∀ v ∈ q, v.oneCell' = true) ∧ (∀ v ∈ xc, v.oneCell' = true) from ⟨h1c, h1x⟩)
  have HCL := Lib.hid hcl
  clear hg hv hcur hp hq hr hx h1c h1x hlen hcl
  go_enter Tryz.func91, Tryz.ntmps91
  go_wp2_with (simp only [hov])
  have hw1 : IntKind.i64.wrap ((i : Int) + 1) = (i : Int) + 1 := IntWalk.i64_in _ (by omega)
  have hb1 : (0 : Int) ≤ (i : Int) + 1 := by omega
  have htn : ((i : Int) + 1).toNat = i + 1 := by omega
  have hb5 : (i : Int) + 1 ≤ (n : Int) + 1 := by omega
  have h0i : (0 : Int) ≤ (i : Int) := by omega
  refine region_still_tail 8 (by kernel_rfl) (by kernel_rfl) ?_
  simp only [List.take_succ_cons, List.take_zero, List.drop_succ_cons, List.drop_zero]
  iterate 8 still_step
  clear hw1 hb1 htn hb5
  refine wpStill_nil ?_
  refine copyK rfl _ _ 33 33 rfl 53 Tryz.underlying33 6 infoSzB g ((i + 1) * 6) (n - i) (cap - (i + 1)) ⟨g, i * 6, none⟩ (n + 1 - i) (cap - i) (by rfl) (by rfl) cur 53 (by have := HG0.out; exact this) q ?_ ?_ ?_ ?_ w0 (by exact hG.drew) hbg ?_
  · rw [HPQ.out.2.1]
    congr 1
    simp only [Nat.min_def]
    split <;> omega
  · intro j v hj
    rw [add_lit]
    refine cells_at HG0.out (i * 6 + j) v ?_
    rw [HC.out, List.append_assoc, ← HPQ.out.1, List.getElem?_append_right (by omega), Nat.add_sub_cancel_left, List.getElem?_append_left (List.getElem?_eq_some_iff.1 hj).1]
    exact hj
  · have h1 := HPQ.out
    rw [HC.out]
    simp only [List.length_append]
    omega
  · exact fun v hv => H1.out.1 v hv
  intro w1 HG1 HW1 HK1
  have hvb1 : w1.heap[vb]? = some (.cells xc.toArray 53 (0, 0)) := (HK1.out vb hne).trans HV.out
  obtain ⟨w2, hrun, hg2, hG2, hk2⟩ := copy_run (P := Tryz.prog) w1 33 33 53 Tryz.underlying33 6 infoSzB g (i * 6) (n + 1 - i) (cap - i) ⟨vb, 0, none⟩ 1 1 _ 53 HG1.out xc (by
      rw [HPQ.out.2.2.2]
      have : Nat.min 1 (n + 1 - i) = 1 := by simp only [Nat.min_def]; split <;> omega
      rw [this]) (fun j v hj => by rw [add_lit, Nat.zero_add]; exact cells_at hvb1 j v hj) (by
      have h1 := HPQ.out
      rw [length_splice _ _ _ (by rw [HC.out]; simp only [List.length_append]; omega), HC.out]
      simp only [List.length_append]
      omega) H1.out.2 w0 HW1.out hbg
  have HFin : RowKit.Hid (w2.ownsRow w0.heap.size 53 6 (.slice (some ⟨g, 0, none⟩) (n + 1) cap) (n + 1) (p ++ xc ++ q)) := by
    have h1 := HPQ.out
    have hs := splice_shift p q r xc (by omega)
    rw [h1.1, h1.2.2.2, ← HC.out, show i * 6 + 6 = (i + 1) * 6 by omega] at hs
    refine own_splice hbg hg2 (by omega) (by unfold maxLen; omega) ?_ (by simp only [List.length_append]; omega) ⟨_, hs⟩
    rw [length_splice _ _ _ (by rw [length_splice _ _ _ (by rw [HC.out]; simp only [List.length_append]; omega), HC.out]; simp only [List.length_append]; omega), length_splice _ _ _ (by rw [HC.out]; simp only [List.length_append]; omega)]
    exact HCL.out
  have HGR := Lib.hid (grown_of hG hG2 hg2 (fun b hb => (hk2 b hb).trans (HK1.out b hb)))
  clear hg2 hG2 hvb1 hk2
  go_wp2
  go_ret
  exact ⟨_, rfl, HFin.out, HGR.out, .inl rfl⟩
/-- The row that append(s[:i], make(..)...) gives where there is no room. -/
theorem zerosB (w : World) (g cap n i : Nat) (cur p q : List Value) (hi : i < n) (hnc : n ≤ cap) (hroom : cap < n + 1) (hn : n ≤ 1000000) (hg : w.heap[g]? = some (.cells cur.toArray 53 (0, 0))) (hcur : ∃ r, cur = p ++ q ++ r) (hp : p.length = i * 6) :
    ∃ (G : Nat) (Z : List Value) (w1 : World), (∀ ty, (Builtin.append_ #[33, 3] ty #[.slice (some ⟨g, 0, none⟩) i cap, .int .i64 ((n : Int) + 1 - (i : Int))]).run Tryz.prog w = .ok (.slice (some ⟨w.heap.size, 0, none⟩) (n + 1) G) w1) ∧
      n + 1 ≤ G ∧ G ≤ maxLen ∧ w1.heap[w.heap.size]? = some (.cells (p ++ Z).toArray 53 (0, 0)) ∧ (n + 1 - i) * 6 ≤ Z.length ∧ i * 6 + Z.length = G * 6 ∧ Grew w w1 := by
  obtain ⟨i0, hi0, hz0, hz1, hz2⟩ := info_parts cinfoB
  obtain ⟨r, hcur⟩ := hcur
  have hkk : (n : Int) + 1 - (i : Int) = ((n + 1 - i : Nat) : Int) := by omega
  have hik : i + (n + 1 - i) = n + 1 := by omega
  have hold : (Builtin.firstCells i0.size i (.slice (some ⟨g, 0, none⟩) i cap)).run Tryz.prog w.drew = .ok p.toArray w.drew := by
    rw [hz1]
    refine run_firstCells_some w.drew 6 i ⟨g, 0, none⟩ i cap p hp (fun j v hj => ?_)
    rw [add_lit, Nat.zero_add]
    refine cells_at (w := w.drew) hg j v ?_
    rw [hcur, List.append_assoc, List.getElem?_append_left (List.getElem?_eq_some_iff.1 hj).1]
    exact hj
  have h := fun ty => Lib.run_append_grow_zeros w 33 3 ty 53 i0 _ .i64 .i64 Tryz.underlying33 Tryz.underlying3 hi0 hz0 (some ⟨g, 0, none⟩) i cap p hold (n + 1 - i) (by omega) (by omega) (by omega) (by omega) (by rw [hz2]; omega) (by rw [hz2, hik]; exact growslice_fits hroom (by omega))
  simp only [hik] at h
  rw [hkk]
  obtain ⟨ZC, hZC⟩ : ∃ ZC, ZC = (Value.agg #[.int .i64 0, .int .i64 0, .int .i64 0, .string ⟨#[]⟩, .string ⟨#[]⟩, .slice none 0 0]).cells := ⟨_, rfl⟩
  have hZs : ZC.size = 6 := by rw [hZC]; rfl
  rw [← hZC] at h
  refine ⟨_, (Builtin.zeroCells ZC (n + 1 - i) ++ Builtin.zeroCells ZC (grownCap w (n + 1) cap 53 - (n + 1))).toList, _, h, grownCap_ge w _ _ _, grownCap_le_maxLen w (n + 1) cap _ (by unfold maxLen; omega), ?_, ?_, ?_, (Grew.refl w).drew.alloc _⟩
  · have := heap_alloc_last w.drew (.cells (p.toArray ++ Builtin.zeroCells ZC (n + 1 - i) ++ Builtin.zeroCells ZC (grownCap w (n + 1) cap 53 - (n + 1))) 53 (0, 0))
    rw [show (p ++ (Builtin.zeroCells ZC (n + 1 - i) ++ Builtin.zeroCells ZC (grownCap w (n + 1) cap 53 - (n + 1))).toList).toArray = p.toArray ++ Builtin.zeroCells ZC (n + 1 - i) ++ Builtin.zeroCells ZC (grownCap w (n + 1) cap 53 - (n + 1)) by simp [Array.append_assoc]]
    exact this
  · simp [Builtin.zeroCells, hZs]
  · have h9 := grownCap_ge w (n + 1) cap 53
    simp only [Builtin.zeroCells, hZs, Array.toList_append, List.length_append, Array.length_toList, Array.size_map, Array.size_range]
    rw [← Nat.add_assoc, ← Nat.add_mul, ← Nat.add_mul]
    generalize grownCap w (n + 1) cap 53 = X at h9 ⊢
    rw [show i + (n + 1 - i) + (X - (n + 1)) = X by omega]
set_option maxHeartbeats 4000000 in
set_option maxRecDepth 100000 in
/-- There is no room. -/
theorem insGrowB (w0 : World) (g cap n i vb : Nat) (cur p q r xc : List Value) (w : World) (hi : i < n) (hnc : n ≤ cap) (hroom : cap < n + 1) (hn : n ≤ 1000000) (hG : Grew w0 w)
    (hg : w.heap[g]? = some (.cells cur.toArray 53 (0, 0))) (hcur : cur = p ++ q ++ r) (hp : p.length = i * 6) (hq : q.length = (n - i) * 6)
    (hv : w.heap[vb]? = some (.cells xc.toArray 53 (0, 0))) (hx : xc.length = 6) (h1c : ∀ v ∈ q, v.oneCell' = true) (h1x : ∀ v ∈ xc, v.oneCell' = true) :
    Calls Tryz.prog 91 #[.slice (some ⟨g, 0, none⟩) n cap, .int .i64 i, .slice (some ⟨vb, 0, none⟩) 1 1] w (RetRow3 53 6 (p ++ xc ++ q) (n + 1) w0.heap.size (.slice (some ⟨g, 0, none⟩) n cap) w) := by
  obtain ⟨G, Z, w1, hrun1, hG1, hG2, hh1, hZ, hZl, hgr1⟩ := zerosB w g cap n i cur p q hi hnc hroom hn hg ⟨r, hcur⟩ hp
  unfold maxLen at hG2
  have hglt : g < w.heap.size := (Array.getElem?_eq_some_iff.1 hg).1
  have hvlt : vb < w.heap.size := (Array.getElem?_eq_some_iff.1 hv).1
  have hv1 : w1.heap[vb]? = some (.cells xc.toArray 53 (0, 0)) := (hgr1.block vb hvlt).trans hv
  have hg1 : w1.heap[g]? = some (.cells cur.toArray 53 (0, 0)) := (hgr1.block g hglt).trans hg
  have hmin : Nat.min 1 (n + 1 - i) = 1 := by simp only [Nat.min_def]; split <;> omega
  obtain ⟨w2, hrun2, hh2, hgr2, hk2⟩ := copy_run (P := Tryz.prog) w1 33 33 53 Tryz.underlying33 6 infoSzB w.heap.size (i * 6) (n + 1 - i) (G - i) ⟨vb, 0, none⟩ 1 1 _ 53 hh1 xc (by rw [hx, hmin]) (fun j v hj => by rw [add_lit, Nat.zero_add]; exact cells_at hv1 j v hj) (by rw [List.length_append, hp, hx]; omega) h1x w hgr1 (Nat.le_refl _)
  have hg2 : w2.heap[g]? = some (.cells cur.toArray 53 (0, 0)) := (hk2 g (by omega)).trans hg1
  have hz1 : ¬ ((i : Int) = (n : Int)) := by omega
  have hz3 : (cap : Int) < (n : Int) + 1 := by omega
  have hb2 : ¬ (G = i + 1) := by omega
  have hb3 : (i : Int) ≤ (n : Int) + 1 := by omega
  have hb4 : ¬ (cap = i) := by omega
  have hb5 : ¬ (G = i) := by omega
  have hin : i ≤ n := by omega
  have hin2 : (i : Int) ≤ (n : Int) := by omega
  have HR2 := Lib.hid (show w2.heap[w.heap.size]? = _ ∧ w2.heap[g]? = _ ∧ Grew w w2 from ⟨hh2, hg2, hgr2⟩)
  have HC := Lib.hid hcur
  have HPQ := Lib.hid (show p.length = i * 6 ∧ q.length = (n - i) * 6 ∧ xc.length = 6 ∧ (n + 1 - i) * 6 ≤ Z.length ∧ i * 6 + Z.length = G * 6 from ⟨hp, hq, hx, hZ, hZl⟩)
  have H1 := Lib.hid (show (∀ v ∈ q, v.oneCell' = true) ∧ (∀ v ∈ xc, v.oneCell' = true) from ⟨h1c, h1x⟩)
  clear hg hv hcur hp hq hx h1c h1x hh1 hZ hZl hgr1 hv1 hg1 hmin hh2 hgr2 hk2 hg2 hglt hvlt
  obtain ⟨H, hH⟩ : ∃ H, H = w.heap.size := ⟨_, rfl⟩
  rw [← hH] at HR2 hrun1 hrun2
  have HH := Lib.hid hH
  clear hH
  go_enter Tryz.func91, Tryz.ntmps91
  go_wp2_with (at_builtin; refine Lib.wpList_append_run _ rfl _ _ _ _ rfl _ _ rfl rfl _ _ (hrun1 _) ?_)
  have hw1 : IntKind.i64.wrap ((i : Int) + 1) = (i : Int) + 1 := IntWalk.i64_in _ (by omega)
  have hb6 : (0 : Int) ≤ (i : Int) + 1 := by omega
  have htn : ((i : Int) + 1).toNat = i + 1 := by omega
  have hb7 : (i : Int) + 1 ≤ (n : Int) + 1 := by omega
  have h0i : (0 : Int) ≤ (i : Int) := by omega
  refine region_still_tail 8 (by kernel_rfl) (by kernel_rfl) ?_
  simp only [List.take_succ_cons, List.take_zero, List.drop_succ_cons, List.drop_zero]
  iterate 8 still_step
  clear hw1 hb6 htn hb7
  refine wpStill_nil ?_
  refine copyK rfl _ _ 33 33 rfl 53 Tryz.underlying33 6 infoSzB H ((i + 1) * 6) (n - i) (G - (i + 1)) ⟨g, i * 6, none⟩ (n - i) (cap - i) (by rfl) (by rfl) _ 53 (by have := HR2.out.1; exact this) q ?_ ?_ ?_ ?_ w (by exact HR2.out.2.2.drew) (by rw [HH.out]; exact Nat.le_refl _) ?_
  · rw [HPQ.out.2.1]
    congr 1
    simp only [Nat.min_def]
    split <;> omega
  · intro j v hj
    rw [add_lit]
    refine cells_at (w := w2.drew) HR2.out.2.1 (i * 6 + j) v ?_
    rw [HC.out, List.append_assoc, ← HPQ.out.1, List.getElem?_append_right (by omega), Nat.add_sub_cancel_left, List.getElem?_append_left (List.getElem?_eq_some_iff.1 hj).1]
    exact hj
  · have h1 := HPQ.out
    rw [length_splice _ _ _ (by rw [List.length_append]; omega), List.length_append]
    omega
  · exact fun v hv => H1.out.1 v hv
  intro w3 HG3 HW3 HK3
  have HFin : RowKit.Hid (w3.ownsRow w0.heap.size 53 6 (.slice (some ⟨H, 0, none⟩) (n + 1) G) (n + 1) (p ++ xc ++ q)) := by
    have h1 := HPQ.out
    have hs := splice_new p q Z xc
    rw [h1.1, h1.2.2.1, show i * 6 + 6 = (i + 1) * 6 by omega] at hs
    refine own_splice (by rw [HH.out]; exact hG.size) HG3.out (by omega) (by unfold maxLen; omega) ?_ (by simp only [List.length_append]; omega) ⟨_, hs⟩
    rw [length_splice _ _ _ (by rw [length_splice _ _ _ (by rw [List.length_append]; omega), List.length_append]; omega), length_splice _ _ _ (by rw [List.length_append]; omega), List.length_append, h1.1]
    exact h1.2.2.2.2
  go_wp2
  go_ret
  exact ⟨_, rfl, HFin.out, grown_grew HW3.out _, .inr fun b hb => by simp [Value.ownBlock] at hb; rw [← hb, HH.out]; exact Nat.le_refl _⟩
set_option maxHeartbeats 4000000 in
set_option maxRecDepth 100000 in
/-- At the end. -/
theorem insEndB (w0 : World) (n vb : Nat) (xs xc : List Value) (v : Value) (w : World) (hown : w.ownsRow w0.heap.size 53 6 v n xs) (hG : Grew w0 w) (hl : n ≤ 1000000)
    (hv : w.heap[vb]? = some (.cells xc.toArray 53 (0, 0))) (hx : xc.length = 6) (h1x : ∀ v ∈ xc, v.oneCell' = true) :
    Calls Tryz.prog 91 #[v, .int .i64 n, .slice (some ⟨vb, 0, none⟩) 1 1] w (RetRow3 53 6 (xs ++ xc) (n + 1) w0.heap.size v w) := by
  obtain ⟨i0, hi, hz0, hz1, hz2⟩ := info_parts cinfoB
  have HO := Lib.hid hown
  have HV := Lib.hid (fun j u hj => (by rw [Nat.zero_add]; exact cells_at hv j u hj : w.cell? ⟨vb, 0 + j, none⟩ = some u))
  have HX := Lib.hid (show xc.length = 1 * 6 from hx)
  have H1 := Lib.hid h1x
  have hf : ∃ (A : Option Addr) (c : Nat), v = .slice A n c ∧ n ≤ c ∧ c ≤ maxLen ∧ (A = none → n = 0 ∧ c = 0) := by
    rcases hown.2 with ⟨rfl, rfl⟩ | ⟨g, cap, cur, rfl, _, _, h1, h2, _⟩
    · exact ⟨_, _, rfl, Nat.le_refl _, Nat.zero_le _, fun _ => ⟨rfl, rfl⟩⟩
    · exact ⟨_, _, rfl, h1, h2, fun h => by cases h⟩
  obtain ⟨A, c, rfl, hnc, hc, hA⟩ := hf
  unfold maxLen at hc
  clear hown hv hx h1x
  cases A with
  | none =>
    obtain ⟨rfl, rfl⟩ := hA rfl
    clear hA
    go_enter Tryz.func91, Tryz.ntmps91
    go_wp2_with (at_builtin; refine wpList_append_lies _ rfl _ _ 33 rfl w0.heap.size 53 i0 (.agg #[.int .i64 0, .int .i64 0, .int .i64 0, .string ⟨#[]⟩, .string ⟨#[]⟩, .slice none 0 0]) 6 80 Tryz.underlying33 hi hz0 hz1 hz2 rfl (by omega) _ _ _ (by rfl) HO.out ⟨vb, 0, none⟩ 1 1 xc (by rfl) HX.out (fun j u hj => by rw [add_lit]; exact HV.out j u hj) H1.out (by omega) (by unfold maxLen; omega) (by omega) hG.size w.heap.size rfl ?_; intro g3 cap3 w3 hown3 hgr3 hat3 hlt3)
    go_ret
    exact ⟨_, rfl, hown3, hgr3, hat3.imp (fun h => h.symm) (fun h b hb => by simp [Value.ownBlock] at hb; omega)⟩
  | some a =>
    clear hA
    by_cases hcn : c = n
    · subst hcn
      go_enter Tryz.func91, Tryz.ntmps91
      go_wp2_with (at_builtin; refine wpList_append_lies _ rfl _ _ 33 rfl w0.heap.size 53 i0 (.agg #[.int .i64 0, .int .i64 0, .int .i64 0, .string ⟨#[]⟩, .string ⟨#[]⟩, .slice none 0 0]) 6 80 Tryz.underlying33 hi hz0 hz1 hz2 rfl (by omega) _ _ _ (by rfl) HO.out ⟨vb, 0, none⟩ 1 1 xc (by rfl) HX.out (fun j u hj => by rw [add_lit]; exact HV.out j u hj) H1.out (by omega) (by unfold maxLen; omega) (by omega) hG.size w.heap.size rfl ?_; intro g3 cap3 w3 hown3 hgr3 hat3 hlt3)
      go_ret
      exact ⟨_, rfl, hown3, hgr3, hat3.imp (fun h => h.symm) (fun h b hb => by simp [Value.ownBlock] at hb; omega)⟩
    · go_enter Tryz.func91, Tryz.ntmps91
      go_wp2_with (at_builtin; refine wpList_append_lies _ rfl _ _ 33 rfl w0.heap.size 53 i0 (.agg #[.int .i64 0, .int .i64 0, .int .i64 0, .string ⟨#[]⟩, .string ⟨#[]⟩, .slice none 0 0]) 6 80 Tryz.underlying33 hi hz0 hz1 hz2 rfl (by omega) _ _ _ (by rfl) HO.out ⟨vb, 0, none⟩ 1 1 xc (by rfl) HX.out (fun j u hj => by rw [add_lit]; exact HV.out j u hj) H1.out (by omega) (by unfold maxLen; omega) (by omega) hG.size w.heap.size rfl ?_; intro g3 cap3 w3 hown3 hgr3 hat3 hlt3)
      go_ret
      exact ⟨_, rfl, hown3, hgr3, hat3.imp (fun h => h.symm) (fun h b hb => by simp [Value.ownBlock] at hb; omega)⟩
/-- slices.Insert(s, i, x) on a row of the call's own. -/
theorem insertB (w0 : World) (l : List BrC) (x : BrC) (i vb : Nat) (v : Value) (w : World) (hown : w.ownsRow w0.heap.size 53 6 v l.length (l.flatMap BrC.cells)) (hG : Grew w0 w) (hone : ∀ c ∈ l, c.kv.oneCell' = true) (honx : x.kv.oneCell' = true) (hi : i ≤ l.length) (hl : l.length ≤ 1000000)
    (hv : w.heap[vb]? = some (.cells x.cells.toArray 53 (0, 0))) (hne : some vb ≠ v.ownBlock) :
    Calls Tryz.prog 91 #[v, .int .i64 i, .slice (some ⟨vb, 0, none⟩) 1 1] w (RetRow3 53 6 ((l.take i ++ [x] ++ l.drop i).flatMap BrC.cells) (l.length + 1) w0.heap.size v w) := by
  have hx1 : ∀ v ∈ x.cells, v.oneCell' = true := fun v hv => one_cellsB [x] (by simpa using honx) v (by simpa using hv)
  have hxl : x.cells.length = 6 := rfl
  obtain ⟨ht, hd⟩ := flat_take (f := BrC.cells) (k := 6) (fun _ => rfl) l i
  have hfl := flatMap_len BrC.cells 6 (fun _ => rfl) l
  by_cases e : i = l.length
  · subst e
    have := insEndB w0 l.length vb (l.flatMap BrC.cells) x.cells v w hown hG hl hv hxl hx1
    simpa [List.flatMap_append] using this
  · rcases hown.2 with ⟨_, h0⟩ | ⟨g, cap, cur, rfl, hbg, hh, h1, h2, h3, h4⟩
    · omega
    have hres : (l.take i ++ [x] ++ l.drop i).flatMap BrC.cells = (l.flatMap BrC.cells).take (i * 6) ++ x.cells ++ (l.flatMap BrC.cells).drop (i * 6) := by
      rw [ht, hd]; simp [List.flatMap_append]
    have hcur : cur.toList = (l.flatMap BrC.cells).take (i * 6) ++ (l.flatMap BrC.cells).drop (i * 6) ++ cur.toList.drop (l.length * 6) := by
      rw [List.take_append_drop, ← h4, List.take_append_drop]
    have hh' : w.heap[g]? = some (.cells cur.toList.toArray 53 (0, 0)) := by simpa using hh
    have hp : ((l.flatMap BrC.cells).take (i * 6)).length = i * 6 := by rw [List.length_take, hfl]; omega
    have hq : ((l.flatMap BrC.cells).drop (i * 6)).length = (l.length - i) * 6 := by rw [List.length_drop, hfl]; omega
    have hne' : vb ≠ g := fun h => hne (by rw [h]; rfl)
    have hq1 : ∀ v ∈ (l.flatMap BrC.cells).drop (i * 6), v.oneCell' = true := fun v hv => one_cellsB l hone v (List.mem_of_mem_drop hv)
    rw [hres]
    by_cases hroom : l.length + 1 ≤ cap
    · exact insShiftB w0 g cap l.length i vb _ _ _ _ _ w (by omega) hroom h2 hne' hG hbg hh' hcur hp hq (by rw [List.length_drop, Array.length_toList, h3]; omega) (by simpa using h3) hv hxl hq1 hx1
    · exact insGrowB w0 g cap l.length i vb _ _ _ _ _ w (by omega) h1 (by omega) hl hG hh' hcur hp hq hv hxl hq1 hx1
end Go.Proofs.YtafncfomiolmgaaGreatDoor

/- The editor's tree in memory: a box with two slices, the branches in a row of the call's own, each list of children in a row of its own; and what a store into any of them leads to. No condition. -/
namespace Go.Proofs.YtafncfomiolmgaaGreatDoor
open Go.RowKit

def OwnI (base : Nat) (w : World) (v : Value) (l : List Int) : Prop := w.ownsRow base 3 1 v l.length (l.flatMap oneI)
/-- No two of the slices lie in one row. -/
def Apart (vs : List Value) : Prop := vs.Pairwise fun a b => ∀ g, a.ownBlock = some g → b.ownBlock ≠ some g
/-- The editor in block E holds the tree t. -/
structure Ed (base E : Nat) (rv bv : Value) (cs : List BrC) (t : Tr) (w : World) : Prop where
  le : base ≤ E
  box : w.heap[E]? = some (.cells #[rv, bv] 73 (0, 0))
  roots : OwnI base w rv t.roots
  brs : w.ownsRow base 53 6 bv t.brs.length (cs.flatMap BrC.cells)
  len : cs.length = t.brs.length
  each : ∀ i (h : i < cs.length) (h' : i < t.brs.length), cs[i] = t.brs[i].c cs[i].kv ∧ OwnI base w cs[i].kv t.brs[i].kids
  apart : Apart (rv :: cs.map BrC.kv)
def EdS (base E : Nat) (t : Tr) (w : World) : Prop := ∃ rv bv cs, Ed base E rv bv cs t w

theorem ne_IB : (3 : Nat) ≠ 53 := by decide
theorem ne_IE : (3 : Nat) ≠ 73 := by decide
theorem ne_BE : (53 : Nat) ≠ 73 := by decide
section
variable {base E n k g : Nat} {rv bv v v' : Value} {cs : List BrC} {t : Tr} {w w1 w' : World} {e e' : TypeId} {xs : List Value}
theorem own_ty (h : w.ownsRow base e k v n xs) (hg : v.ownBlock = some g) : ∃ cur, w.heap[g]? = some (.cells cur e (0, 0)) := by
  rcases h.2 with ⟨rfl, _⟩ | ⟨g', cap, cur, rfl, _, hh, _⟩
  · simp [Value.ownBlock] at hg
  · simp [Value.ownBlock] at hg
    subst hg
    exact ⟨cur, hh⟩
/-- Rows of other types lie in other blocks. -/
theorem own_ne (h : w.ownsRow base e k v n xs) {cur : Array Value} (hg : w.heap[g]? = some (.cells cur e' (0, 0))) (hne : e ≠ e') : v.ownBlock ≠ some g := by
  intro hb
  obtain ⟨c, hc⟩ := own_ty h hb
  rw [hg] at hc
  injection hc with hc
  injection hc with _ hc _
  exact hne hc.symm
theorem own_off {n' k' : Nat} {xs' : List Value} (h : w.ownsRow base e k v n xs) (h' : w.ownsRow base e' k' v' n' xs') (hne : e ≠ e') : ∀ g, v.ownBlock = some g → v'.ownBlock ≠ some g := by
  intro g hg hg'
  obtain ⟨c, hc⟩ := own_ty h' hg'
  exact own_ne h hc hne hg
theorem own_kept (h : w.ownsRow base e k v n xs) {row : Option Nat} (hg : w.grownBy w' row) (hne : ∀ g, row = some g → v.ownBlock ≠ some g) : w'.ownsRow base e k v n xs := by
  refine h.kept hg ?_
  cases hv : v.ownBlock with
  | none => exact .inl rfl
  | some b => exact .inr fun e => hne b e.symm hv
theorem heap_kept {row : Option Nat} {o : Obj} (h : w.heap[g]? = some o) (hg : w.grownBy w' row) (hne : row ≠ some g) : w'.heap[g]? = some o := by
  rw [hg.block g (Array.getElem?_eq_some_iff.1 h).1 (fun e => hne e.symm)]
  exact h
theorem heap_set (a : Addr) (u : Value) {o : Obj} (h : w.heap[g]? = some o) (hne : g ≠ a.block) : (w.setCell a u).heap[g]? = some o := by rw [Below.heap_setCell _ _ _ _ hne]; exact h
theorem Ed.grew (h : Ed base E rv bv cs t w) (hg : Grew w w') : Ed base E rv bv cs t w' where
  le := h.le
  box := by rw [hg.block E (Array.getElem?_eq_some_iff.1 h.box).1]; exact h.box
  roots := own_later h.roots hg
  brs := own_later h.brs hg
  len := h.len
  each := fun i hi hi' => ⟨(h.each i hi hi').1, own_later (h.each i hi hi').2 hg⟩
  apart := h.apart
theorem EdS.grew (h : EdS base E t w) (hg : Grew w w') : EdS base E t w' := by
  obtain ⟨rv, bv, cs, h⟩ := h
  exact ⟨rv, bv, cs, h.grew hg⟩
theorem Ed.tree (h : Ed base E rv bv cs t w) : SlI w rv t.roots ∧ SlBr w bv t.brs := by
  have h1 : Rd w 1 rv (t.roots.flatMap oneI) := Rd.of_own h.roots
  exact ⟨h1, cs, Rd.of_own h.brs, h.len, fun i hi hi' => ⟨(h.each i hi hi').1, Rd.of_own (h.each i hi hi').2⟩⟩
theorem Ed.cells (h : Ed base E rv bv cs t w) : w.cell? ⟨E, 0, none⟩ = some rv ∧ w.cell? ⟨E, 1, none⟩ = some bv ∧ w.frozen? ⟨E, 0, none⟩ = false ∧ w.frozen? ⟨E, 1, none⟩ = false := by
  have hb := h.box
  simp [World.cell?, World.frozen?, hb]
theorem Ed.one (h : Ed base E rv bv cs t w) : ∀ c ∈ cs, c.kv.oneCell' = true := by
  intro c hc
  obtain ⟨i, hi, rfl⟩ := List.mem_iff_getElem.1 hc
  obtain ⟨_, h2⟩ := h.each i hi (by have := h.len; omega)
  rcases h2.2 with ⟨e, _⟩ | ⟨g, cap, cur, e, _⟩
  · rw [e]; rfl
  · rw [e]; rfl
theorem flat_set {c c' : BrC} {j : Nat} {u : Value} (hj : j < 6) (hc : c'.cells = c.cells.set j u) : ∀ (cs : List BrC) (i : Nat) (hi : i < cs.length), cs[i] = c → (cs.flatMap BrC.cells).set (i * 6 + j) u = (cs.set i c').flatMap BrC.cells
  | [], i, hi, _ => absurd hi (Nat.not_lt_zero _)
  | x :: r, 0, _, e => by
    simp only [List.getElem_cons_zero] at e
    subst e
    rw [List.set_cons_zero, List.flatMap_cons, List.flatMap_cons, hc, Nat.zero_mul, Nat.zero_add, List.set_append_left _ _ (by simpa [BrC.cells] using hj)]
  | x :: r, i + 1, hi, e => by
    have hl : x.cells.length = 6 := rfl
    have ih := flat_set hj hc r i (by simpa using hi) (by simpa using e)
    rw [List.set_cons_succ, List.flatMap_cons, List.flatMap_cons, List.set_append_right _ _ (by omega), ← ih]
    congr 2
    omega
/-- What is apart stays apart where a slice moves to a new row, or stays. -/
theorem Apart.head {x y : Value} {l : List Value} (h : Apart (x :: l)) (hy : y.ownBlock = x.ownBlock ∨ ∀ g, y.ownBlock = some g → ∀ v ∈ l, v.ownBlock ≠ some g) : Apart (y :: l) := by
  obtain ⟨h1, h2⟩ := List.pairwise_cons.1 h
  refine List.pairwise_cons.2 ⟨fun v hv g hg => ?_, h2⟩
  rcases hy with hy | hy
  · exact h1 v hv g (by rw [← hy]; exact hg)
  · exact hy g hg v hv
theorem Apart.at_ {l : List Value} (h : Apart l) {i j : Nat} (hi : i < l.length) (hj : j < l.length) (hij : i ≠ j) : ∀ g, l[i].ownBlock = some g → l[j].ownBlock ≠ some g := by
  intro g hg hg'
  rcases Nat.lt_or_gt_of_ne hij with hlt | hlt
  · exact List.pairwise_iff_getElem.1 h i j hi hj hlt g hg hg'
  · exact List.pairwise_iff_getElem.1 h j i hj hi hlt g hg' hg
theorem Apart.of {l : List Value} (h : ∀ i j (hi : i < l.length) (hj : j < l.length), i < j → ∀ g, l[i].ownBlock = some g → l[j].ownBlock ≠ some g) : Apart l := List.pairwise_iff_getElem.2 fun i j hi hj hij => h i j hi hj hij
theorem Apart.set {y : Value} {l : List Value} (h : Apart l) {i : Nat} (hi : i < l.length) (hy : y.ownBlock = l[i].ownBlock ∨ ∀ g, y.ownBlock = some g → ∀ v ∈ l, v.ownBlock ≠ some g) : Apart (l.set i y) := by
  refine Apart.of fun a b ha hb hab g hg hg' => ?_
  have ha2 : a < l.length := by simpa using ha
  have hb2 : b < l.length := by simpa using hb
  by_cases e1 : a = i
  · subst e1
    rw [List.getElem_set_self] at hg
    rw [List.getElem_set_ne (by omega)] at hg'
    rcases hy with hy | hy
    · exact h.at_ ha2 hb2 (by omega) g (by rw [← hy]; exact hg) hg'
    · exact hy g hg _ (List.getElem_mem hb2) hg'
  · rw [List.getElem_set_ne (by omega)] at hg
    by_cases e2 : b = i
    · subst e2
      rw [List.getElem_set_self] at hg'
      rcases hy with hy | hy
      · exact h.at_ ha2 hb2 (by omega) g hg (by rw [← hy]; exact hg')
      · exact hy g hg' _ (List.getElem_mem ha2) hg
    · rw [List.getElem_set_ne (by omega)] at hg'
      exact h.at_ ha2 hb2 (by omega) g hg hg'
theorem Ed.rows (h : Ed base E rv bv cs t w) : ∀ v ∈ rv :: cs.map BrC.kv, ∃ l, OwnI base w v l := by
  intro v hv
  rcases List.mem_cons.1 hv with e | hv
  · exact ⟨_, by rw [e]; exact h.roots⟩
  · obtain ⟨c, hc, rfl⟩ := List.mem_map.1 hv
    obtain ⟨i, hi, rfl⟩ := List.mem_iff_getElem.1 hc
    exact ⟨_, (h.each i hi (by have := h.len; omega)).2⟩
theorem Ed.fresh (h : Ed base E rv bv cs t w) (hv : ∀ b, v'.ownBlock = some b → w.heap.size ≤ b) : ∀ g, v'.ownBlock = some g → ∀ v ∈ rv :: cs.map BrC.kv, v.ownBlock ≠ some g := by
  intro g hg v hm hb
  obtain ⟨l, hl⟩ := h.rows v hm
  have := (hl.lt g hb).2
  have := hv g hg
  omega
/-- Other roots. -/
theorem Ed.setRoots (h : Ed base E rv bv cs t w) (hg : w.grownBy w1 rv.ownBlock) {ks : List Int} (hv : OwnI base w1 v' ks) (hat : v'.ownBlock = rv.ownBlock ∨ ∀ b, v'.ownBlock = some b → w.heap.size ≤ b) : Ed base E v' bv cs ⟨ks, t.brs⟩ (w1.setCell ⟨E, 0, none⟩ v') := by
  have hbx : w1.heap[E]? = some (.cells #[rv, bv] 73 (0, 0)) := heap_kept h.box hg (own_ne h.roots h.box ne_IE)
  have hbr := own_kept h.brs hg (fun g hr => own_off h.roots h.brs ne_IB g hr)
  refine ⟨h.le, ?_, ?_, ?_, h.len, fun i hi hi' => ⟨(h.each i hi hi').1, ?_⟩, h.apart.head (hat.imp_right fun hf g hg v hm => h.fresh hf g hg v (List.mem_cons_of_mem _ hm))⟩
  · have := heap_setCell_same w1 E 0 #[rv, bv] 73 v' hbx
    simpa using this
  · exact ownsRow_setCell_other hv (own_ne hv hbx ne_IE) _
  · exact ownsRow_setCell_other hbr (own_ne hbr hbx ne_BE) _
  · have h1 := own_kept (h.each i hi hi').2 hg (fun g hr => (List.pairwise_cons.1 h.apart).1 _ (List.mem_map.2 ⟨_, List.getElem_mem hi, rfl⟩) g hr)
    exact ownsRow_setCell_other h1 (own_ne h1 hbx ne_IE) _
/-- A store into a branch: other children, or another field. -/
theorem Ed.poke (h : Ed base E rv bv cs t w) {i j : Nat} (hi : i < cs.length) (hi' : i < t.brs.length) (hj : j < 6) {row : Option Nat} (hg : w.grownBy w1 row) (hrow : row = none ∨ row = cs[i].kv.ownBlock) {c' : BrC} {b' : Br} {u : Value} (hc : c'.cells = cs[i].cells.set j u) (hb : c' = b'.c c'.kv)
    (hk : OwnI base w1 c'.kv b'.kids) (hat : c'.kv.ownBlock = cs[i].kv.ownBlock ∨ ∀ b, c'.kv.ownBlock = some b → w.heap.size ≤ b) : ∃ B cap, bv = .slice (some ⟨B, 0, none⟩) t.brs.length cap ∧ Ed base E rv bv (cs.set i c') ⟨t.roots, t.brs.set i b'⟩ (w1.setCell ⟨B, i * 6 + j, none⟩ u) := by
  obtain ⟨B, cap, hbv, hbb, -, -⟩ := own_form h.brs (by omega)
  subst hbv
  have hkv := (h.each i hi hi').2
  have hmem : cs[i].kv ∈ cs.map BrC.kv := List.mem_map.2 ⟨_, List.getElem_mem hi, rfl⟩
  have hoff : ∀ v ∈ rv :: cs.map BrC.kv, (∃ m, m < (rv :: cs.map BrC.kv).length ∧ m ≠ i + 1 ∧ (rv :: cs.map BrC.kv)[m]? = some v) → ∀ g, row = some g → v.ownBlock ≠ some g := by
    rintro v _ ⟨m, hm, hne, e⟩ g hr
    rcases hrow with h0 | h0
    · rw [h0] at hr; cases hr
    rw [h0] at hr
    have e2 : (rv :: cs.map BrC.kv)[m] = v := by rw [List.getElem?_eq_getElem hm] at e; exact Option.some.inj e
    have := h.apart.at_ (i := i + 1) (j := m) (by simpa using hi) hm (fun e => hne e.symm) g (by simpa using hr)
    rw [e2] at this
    exact this
  have hrowI : ∀ g, row = some g → cs[i].kv.ownBlock = some g := fun g hr => by
    rcases hrow with h0 | h0
    · rw [h0] at hr; cases hr
    · rw [← h0]; exact hr
  have hbx : w1.heap[E]? = some (.cells #[rv, .slice (some ⟨B, 0, none⟩) t.brs.length cap] 73 (0, 0)) := heap_kept h.box hg (fun e => own_ne hkv h.box ne_IE (hrowI E e))
  have hbr := own_kept h.brs hg (fun g hr => own_off hkv h.brs ne_IB g (hrowI g hr))
  obtain ⟨curB, hB⟩ := own_ty hbr (g := B) rfl
  have hrt := own_kept h.roots hg (fun g hr => hoff rv (List.mem_cons_self ..) ⟨0, by simp, by omega, rfl⟩ g hr)
  refine ⟨B, cap, rfl, h.le, heap_set _ _ hbx (fun e => own_ne hbr hbx ne_BE (by simp [Value.ownBlock]; exact e.symm)), ownsRow_setCell_other hrt (own_ne hrt hB ne_IB) _, ?_, by simp [h.len], fun m hm hm' => ?_, ?_⟩
  · have h1 := (hbr.stored (i * 6 + j) u).1
    rw [flat_set hj hc cs i hi rfl] at h1
    simpa using h1
  · have hm2 : m < cs.length := by simpa using hm
    have hm3 : m < t.brs.length := by simpa using hm'
    by_cases e : m = i
    · subst e
      rw [List.getElem_set_self, List.getElem_set_self]
      exact ⟨hb, ownsRow_setCell_other hk (own_ne hk hB ne_IB) _⟩
    · rw [List.getElem_set_ne (by omega), List.getElem_set_ne (by omega)]
      obtain ⟨e1, e2⟩ := h.each m hm2 hm3
      refine ⟨e1, ?_⟩
      have h1 := own_kept e2 hg (fun g hr => hoff cs[m].kv (List.mem_cons_of_mem _ (List.mem_map.2 ⟨_, List.getElem_mem hm2, rfl⟩)) ⟨m + 1, by simpa using hm2, by omega, by simp [hm2]⟩ g hr)
      exact ownsRow_setCell_other h1 (own_ne h1 hB ne_IB) _
  · have h1 := h.apart.set (i := i + 1) (y := c'.kv) (by simpa using hi) (by simpa using hat.imp_right fun hf g hg v hm => h.fresh hf g hg v hm)
    simpa [List.map_set] using h1
/-- Other branches. -/
theorem Ed.setBrs (h : Ed base E rv bv cs t w) (hg : w.grownBy w1 bv.ownBlock) {ds : List BrC} {l : List Br} (hv : w1.ownsRow base 53 6 v' l.length (ds.flatMap BrC.cells)) (hlen : ds.length = l.length)
    (hea : ∀ i (h : i < ds.length) (h' : i < l.length), ds[i] = l[i].c ds[i].kv ∧ OwnI base w1 ds[i].kv l[i].kids) (hap : Apart (rv :: ds.map BrC.kv)) : Ed base E rv v' ds ⟨t.roots, l⟩ (w1.setCell ⟨E, 1, none⟩ v') := by
  have hbx : w1.heap[E]? = some (.cells #[rv, bv] 73 (0, 0)) := heap_kept h.box hg (own_ne h.brs h.box ne_BE)
  have hrt := own_kept h.roots hg (fun g hr hv => own_off h.roots h.brs ne_IB g hv hr)
  refine ⟨h.le, ?_, ownsRow_setCell_other hrt (own_ne hrt hbx ne_IE) _, ownsRow_setCell_other hv (own_ne hv hbx ne_BE) _, hlen, fun i hi hi' => ⟨(hea i hi hi').1, ownsRow_setCell_other (hea i hi hi').2 (own_ne (hea i hi hi').2 hbx ne_IE) _⟩, hap⟩
  have := heap_setCell_same w1 E 1 #[rv, bv] 73 v' hbx
  simpa using this
end
end Go.Proofs.YtafncfomiolmgaaGreatDoor
