/- Lemmas on what the functions of the program and of the library compute: R2, R5, Ins, InsR, App3, App4, J4, Bk1, Bw1. The conditions stand at each. -/
import Derived.Test.YtjaknioojpgkiaaGreatDoorQ8
import Derived.BigQuiet
import Derived.Test.YtjaknioojpgkiaaGreatDoorQ10
import Derived.Test.YtjaknioojpgkiaaGreatDoorQ3
import Derived.Lib.Overlaps
import Derived.Lib.AppendZerosOnto
import Derived.Laws.CopyOwn
import Derived.Deep.RegionLaw
import Derived.Deep.AppendLies
import Derived.Test.YtjaknioojpgkiaaGreatDoorQ1
import Derived.Test.YtjaknioojpgkiaaGreatDoorQ14
import Derived.Test.YtjaknioojpgkiaaGreatDoorQ2
import Derived.Test.YtjaknioojpgkiaaGreatDoorQ4
import Derived.Test.YtjaknioojpgkiaaGreatDoorQ5
import Derived.Deep.RegionHeld3
import Derived.Deep.DeepCutAuto
import Derived.Test.YtjaknioojpgkiaaGreatDoorQ7
import Derived.RangeFuncLeaves
import Derived.RangeFuncBox
import Derived.OwnWalkIn
import Derived.TacticsInMore
import Derived.LoopNIn
import Derived.LoopIn
import Derived.Maps.AppendAt
/- The reference implementation's check of the languages, walked: it answers as the program's own. No condition. -/
namespace Go.Proofs.YtjaknioojpgkiaaGreatDoor
open Go.RowKit

theorem SlS.take {w : World} {A : Option Addr} {n c : Nat} {l : List ByteArray} (hv : SlS w (.slice A n c) l) (k : Nat) (hk : k ≤ l.length) : SlS w (.slice A k c) (l.take k) := by
  obtain ⟨A', n', c', hs, hl, hn, hc, hr⟩ := hv
  cases hs
  rw [flatMap_len oneS 1 (fun _ => rfl)] at hl
  refine ⟨A, k, c, rfl, ?_, by omega, hc, fun h0 => ?_⟩
  · rw [flatMap_len oneS 1 (fun _ => rfl), List.length_take]
    omega
  · obtain ⟨b, off, hA, hb, hcell⟩ := hr (by omega)
    refine ⟨b, off, hA, hb, fun j u hu => hcell j u ?_⟩
    have e : ∀ m : List ByteArray, m.flatMap oneS = m.map Value.string := fun m => by
      induction m with
      | nil => rfl
      | cons x r ih => simp [List.flatMap_cons, oneS, ih]
    rw [e, List.getElem?_map, List.getElem?_take] at hu
    rw [e, List.getElem?_map]
    split at hu
    · exact hu
    · cases hu
end Go.Proofs.YtjaknioojpgkiaaGreatDoor

/- The reference implementation's functions on values, walked: they answer as the program's own. No condition but the sizes that a slice can have. -/
namespace Go.Proofs.YtjaknioojpgkiaaGreatDoor
open Go.RowKit

/-- Whether one value stands before another. -/
def lessV (a b : Val) : Bool := decide (orderV a b < 0)
theorem lessV_ltV (a b : Val) : lessV a b = true ↔ ltV a b := by simp [lessV, orderV_lt]
end Go.Proofs.YtjaknioojpgkiaaGreatDoor

/- Laws for copy at elements of several cells. No condition. -/
namespace Go.Proofs.YtjaknioojpgkiaaGreatDoor
open Go.RowKit

theorem run_copy_rowk {P : Program} (w : World) (dT sT ty elem : TypeId) (g o dLen dCap : Nat) (a : Addr) (sLen sCap k : Nat) (cur : List Value) (t : TypeId) (cs : List Value)
    (hu : P.underlying dT = some (.slice elem)) (hs : (P.info? elem).map (·.size) = some k) (hg : w.heap[g]? = some (.cells cur.toArray t (0, 0))) (hn : cs.length = Nat.min sLen dLen * k)
    (hsrc : ∀ j v, cs[j]? = some v → w.cell? (a.add j) = some v) (hfit : o + cs.length ≤ cur.length) (h1 : ∀ v ∈ cs, v.oneCell' = true) :
    (Builtin.copy_ #[dT, sT] ty #[.slice (some ⟨g, o, none⟩) dLen dCap, .slice (some a) sLen sCap]).run P w = .ok (goInt (Nat.min sLen dLen)) (w.setRow g (splice cur o cs).toArray) := by
  have hl := run_loadCells_list (P := P) w a cs hsrc
  have hst := run_storeCells_at P g o t cs 0 cur.toArray w hg (by simpa using hfit) h1
  cases hq : P.info? elem with
  | none => simp [hq] at hs
  | some i =>
    have hi : i.size = k := by simpa [hq] using hs
    rw [hn] at hl
    simp [Builtin.copy_, run_underlying hu, Builtin.lenOf, Builtin.firstCells, sizeOf, typeInfo, hq, hi, hl, hst, splice]
/-- copy(d, s) at an operation: d lies in a row that is known whole. -/
theorem copyK {P : Program} {w : World} {ops : Array Oper} {rest : List Oper} {o : Oper} {a : Act} {Q : Exit → Act → World → Prop} (hgd : o.guard = none) (d s : Operand) (dT sT : TypeId)
    (ho : o.op = .call { callee := .builtin .copy, args := #[d, s], argTypes := #[dT, sT] }) (elem : TypeId) (hu : P.underlying dT = some (.slice elem)) (k : Nat) (hsz : (P.info? elem).map (·.size) = some k)
    (g off dLen dCap : Nat) (ad : Addr) (sLen sCap : Nat) (hd : a.eval d = .slice (some ⟨g, off, none⟩) dLen dCap) (hs : a.eval s = .slice (some ad) sLen sCap)
    (cur : List Value) (t : TypeId) (hg : w.heap[g]? = some (.cells cur.toArray t (0, 0))) (cs : List Value) (hn : cs.length = Nat.min sLen dLen * k)
    (hsrc : ∀ j v, cs[j]? = some v → w.cell? (ad.add j) = some v) (hfit : off + cs.length ≤ cur.length) (h1 : ∀ v ∈ cs, v.oneCell' = true) (w0 : World) (hb : Grew w0 w) (hBg : w0.heap.size ≤ g)
    (h : ∀ w', Hid (w'.heap[g]? = some (.cells (splice cur off cs).toArray t (0, 0))) → Hid (Grew w0 w') → Hid (∀ b, b ≠ g → w'.heap[b]? = w.heap[b]?) → wpList P ops Q rest (a.put o.dst (goInt (Nat.min sLen dLen))) w') :
    wpList P ops Q (o :: rest) a w := by
  refine wpList_plain hgd fun K hK => ?_
  have hrun := run_copy_rowk (P := P) w dT sT o.type elem g off dLen dCap ad sLen sCap k cur t cs hu hsz hg hn hsrc hfit h1
  unfold Oper.wp
  simp [execOp, ho, resolve, invoke, builtin, hd, hs, hrun, Result.andThen]
  exact hK _ _ (h _ (setRow_heap w g _ _ t _ hg) (below_setRow hb hBg _) (fun b hb => setRow_other w g b _ hb))
theorem copy_run {P : Program} (w : World) (dT sT : TypeId) (elem : TypeId) (hu : P.underlying dT = some (.slice elem)) (k : Nat) (hsz : (P.info? elem).map (·.size) = some k)
    (g off dLen dCap : Nat) (ad : Addr) (sLen sCap : Nat) (cur : List Value) (t : TypeId) (hg : w.heap[g]? = some (.cells cur.toArray t (0, 0))) (cs : List Value) (hn : cs.length = Nat.min sLen dLen * k)
    (hsrc : ∀ j v, cs[j]? = some v → w.cell? (ad.add j) = some v) (hfit : off + cs.length ≤ cur.length) (h1 : ∀ v ∈ cs, v.oneCell' = true) (w0 : World) (hb : Grew w0 w) (hBg : w0.heap.size ≤ g) :
    ∃ w', (∀ ty, (Builtin.copy_ #[dT, sT] ty #[.slice (some ⟨g, off, none⟩) dLen dCap, .slice (some ad) sLen sCap]).run P w = .ok (goInt (Nat.min sLen dLen)) w') ∧ w'.heap[g]? = some (.cells (splice cur off cs).toArray t (0, 0)) ∧ Grew w0 w' ∧ ∀ b, b ≠ g → w'.heap[b]? = w.heap[b]? :=
  ⟨_, fun ty => run_copy_rowk (P := P) w dT sT ty elem g off dLen dCap ad sLen sCap k cur t cs hu hsz hg hn hsrc hfit h1, setRow_heap w g _ _ t _ hg, below_setRow hb hBg _, fun b hb => setRow_other w g b _ hb⟩
theorem splice_shift {α : Type} (p q r x : List α) (h : x.length ≤ r.length) : splice (splice (p ++ q ++ r) (p.length + x.length) q) p.length x = p ++ x ++ q ++ (p ++ q ++ r).drop (p.length + x.length + q.length) := by
  generalize hC : p ++ q ++ r = C
  have hl : p.length + x.length ≤ C.length := by rw [← hC]; simp; omega
  have hp : C.take p.length = p := by rw [← hC, List.append_assoc, List.take_left]
  have h1 : (splice C (p.length + x.length) q).take p.length = p := by
    unfold splice
    rw [List.take_append_of_le_length (by rw [List.length_take]; omega), List.take_take, Nat.min_eq_left (by omega), hp]
  have h2 : (splice C (p.length + x.length) q).drop (p.length + x.length) = q ++ C.drop (p.length + x.length + q.length) := by
    unfold splice
    rw [List.drop_append_of_le_length (by rw [List.length_take]; omega), List.drop_eq_nil_of_le (by rw [List.length_take]; omega), List.nil_append]
  rw [splice, h1, h2]
  simp
theorem splice_new {α : Type} (p q z x : List α) : splice (splice (p ++ z) p.length x) (p.length + x.length) q = p ++ x ++ q ++ z.drop (x.length + q.length) := by
  have h1 : splice (p ++ z) p.length x = p ++ x ++ z.drop x.length := by
    unfold splice
    rw [List.take_left, List.drop_append, List.drop_eq_nil_of_le (by omega), Nat.add_sub_cancel_left]
    simp
  rw [h1, splice]
  rw [show p.length + x.length = (p ++ x).length by simp, List.take_left, List.drop_append, List.drop_eq_nil_of_le (by omega), Nat.add_sub_cancel_left, List.drop_drop]
  simp
theorem cells_at {w : World} {g : Nat} {cs : List Value} {t : TypeId} {ab : Nat × Nat} (h : w.heap[g]? = some (.cells cs.toArray t ab)) (j : Nat) (v : Value) (hj : cs[j]? = some v) : w.cell? ⟨g, j, none⟩ = some v := by
  rw [cell_of_row _ _ _ _ _ _ h]
  simpa using hj
end Go.Proofs.YtjaknioojpgkiaaGreatDoor

/- slices.Insert of one relation, on a row of the call's own. No condition but the sizes that a slice can have. -/
namespace Go.Proofs.YtjaknioojpgkiaaGreatDoor
open Go.RowKit

/-- The slice lies, if anywhere, in a block from n on. -/
def Fresh (n : Nat) (v : Value) : Prop := ∀ k, v.ownBlock = some k → n ≤ k
theorem Fresh.nil (n c d : Nat) : Fresh n (.slice none c d) := fun k hk => by simp [Value.ownBlock] at hk
theorem Fresh.at_ {n b o c d : Nat} {s : Option Nat} (h : n ≤ b) : Fresh n (.slice (some ⟨b, o, s⟩) c d) := fun k hk => by simp [Value.ownBlock] at hk; omega
theorem Fresh.own {w : World} {base : Nat} {e : TypeId} {k : Nat} {v : Value} {n : Nat} {xs : List Value} (h : w.ownsRow base e k v n xs) : Fresh base v := fun k hk => (h.lt k hk).1
theorem Fresh.le {m n : Nat} {v : Value} (h : Fresh n v) (hm : m ≤ n) : Fresh m v := fun k hk => Nat.le_trans hm (h k hk)
theorem flat_take {α : Type} {f : α → List Value} {k : Nat} (hk : ∀ x, (f x).length = k) (l : List α) (i : Nat) : (l.flatMap f).take (i * k) = (l.take i).flatMap f ∧ (l.flatMap f).drop (i * k) = (l.drop i).flatMap f := by
  induction l generalizing i with
  | nil => simp
  | cons x r ih =>
    cases i with
    | zero => simp
    | succ i =>
      have e : (i + 1) * k = (f x).length + i * k := by rw [hk, Nat.succ_mul]; omega
      rw [List.flatMap_cons, e, List.take_length_add_append, List.drop_length_add_append, (ih i).1, (ih i).2]
      simp
end Go.Proofs.YtjaknioojpgkiaaGreatDoor

/- append of a slice, nil let in, to an empty list that was just made. No condition but the sizes that a slice can have. -/
namespace Go.Proofs.YtjaknioojpgkiaaGreatDoor
open Go.RowKit

/-- The slice lies, if anywhere, in a block from n on that is there. -/
def Lies (n : Nat) (w : World) (v : Value) : Prop := ∀ k, v.ownBlock = some k → n ≤ k ∧ k < w.heap.size
theorem Lies.mono {n : Nat} {w w' : World} {v : Value} (h : Lies n w v) (hs : w.heap.size ≤ w'.heap.size) : Lies n w' v := fun k hk => ⟨(h k hk).1, Nat.lt_of_lt_of_le (h k hk).2 hs⟩
end Go.Proofs.YtjaknioojpgkiaaGreatDoor

/- Parts of a slice, and an empty list that was just made as a row of the call's own. No condition but the sizes that a slice can have. -/
namespace Go.Proofs.YtjaknioojpgkiaaGreatDoor
open Go.RowKit

theorem preV_rd {W : World} {size n c k : Nat} {A : Option Addr} {cs : List Value} (h : Rd W size (.slice A n c) cs) (hk : k ≤ n) : Rd W size (.slice A k c) (cs.take (k * size)) := by
  obtain ⟨A', n', c', hv, hl, hn, hc, hr⟩ := h
  obtain ⟨rfl, rfl, rfl⟩ := Value.slice.inj hv
  have hm : k * size ≤ n * size := Nat.mul_le_mul_right _ hk
  refine ⟨A, k, c, rfl, by rw [List.length_take]; omega, by omega, hc, fun h0 => ?_⟩
  obtain ⟨b, off, hA, hb, hcell⟩ := hr (by omega)
  refine ⟨b, off, hA, hb, fun j u hu => ?_⟩
  rw [List.getElem?_take] at hu
  split at hu
  · exact hcell j u hu
  · cases hu
theorem rd_lit {W : World} {size : Nat} {e : TypeId} (cs : List Value) (hl : cs.length = size) (H : Nat) (hH : W.heap.size = H) : Rd (W.alloc (.cells cs.toArray e)) size (.slice (some ⟨H, 0, none⟩) 1 1) cs := by
  subst hH
  exact Rd.fresh W e size 1 cs (by omega) (by unfold maxLen; omega)
end Go.Proofs.YtjaknioojpgkiaaGreatDoor

/- The reference's Found of layer 28, walked. The condition: the lists are short. -/
namespace Go.Proofs.YtjaknioojpgkiaaGreatDoor
open Go.RowKit

/-- A call that returns a value, whether there is one, and an error. -/
def RetVE (o : Option Val × Int) (w : World) (e : Ending) (w' : World) : Prop := e = .returned (.tuple #[(o.1.getD val0).agg, .bool o.1.isSome, .int .i64 o.2]) ∧ Grew w w'
end Go.Proofs.YtjaknioojpgkiaaGreatDoor

/- tree.known on any tree, orTop, kids, Kids, walked. The conditions: the library's own variables hold what they must; the lists are short. -/
namespace Go.Proofs.YtjaknioojpgkiaaGreatDoor
open Go.RowKit

set_option maxHeartbeats 2000000 in
theorem tKnownNo (rs : List Int) (l : List Br) (rv bv kv : Value) (w : World) (hE : Env w) (hr : SlI w rv rs) (hv : SlBr w bv l) (hf : FewBr l) (hrl : rs.length ≤ 1000000) (hT : ¬ RightT ⟨rs, l⟩) :
    Calls Tryz.prog 142 #[.agg #[rv, bv], kv] w fun e w' => e = .returned (.int .i64 1) ∧ Grew w w' := by
  have KR := Lib.hid (fun W (hW : Grew w W) => tRight rs l rv bv W (hE.mono hW) (hr.mono hW) (hv.mono hW) hf hrl)
  have HT := Lib.hid hT
  clear hE hr hv hf hrl hT
  go_enter Tryz.func142, Tryz.ntmps142
  go_wp2_with fail
  refine (KR.out _ ((Grew.refl w).alloc _)).mono ?_
  rintro e w1 ⟨bb, rfl, hbb, g1⟩
  obtain rfl : bb = false := by
    cases bb
    · rfl
    · exact absurd (hbb.1 rfl) HT.out
  have HG1 := Lib.hid g1
  clear hbb g1
  dsimp only
  go_wp2
  go_ret
  exact ⟨rfl, ((Grew.refl w).alloc _).trans HG1.out⟩
/-- The error of a tree and a unit, or 0 for the top. -/
def topR (l : List Br) (id : Int) : Int := if id = 0 then 0 else knownF l [id]
set_option maxHeartbeats 2000000 in
theorem tOrTop (rs : List Int) (l : List Br) (id : Int) (rv bv : Value) (w : World) (hE : Env w) (hr : SlI w rv rs) (hv : SlBr w bv l) (hf : FewBr l) (hrl : rs.length ≤ 1000000) (n : Int) (hn : (¬ RightT ⟨rs, l⟩ → n = 1) ∧ (RightT ⟨rs, l⟩ → n = topR l id)) :
    Calls Tryz.prog 102 #[.agg #[rv, bv], .int .i64 id] w fun e w' => e = .returned (.int .i64 n) ∧ Grew w w' := by
  have hfr : ∀ W : World, SlI (W.alloc (.cells #[.int .i64 id] 3)) (.slice (some ⟨W.heap.size, 0, none⟩) 1 1) [id] := fun W => Rd.fresh W _ 1 1 [.int .i64 id] rfl (by decide)
  have hK : ∀ W kv ids, Grew w W → SlI W kv ids → (ids = [] ∧ id = 0 ∨ ids = [id] ∧ id ≠ 0) → Calls Tryz.prog 142 #[.agg #[rv, bv], kv] W fun e w' => e = .returned (.int .i64 n) ∧ Grew W w' := by
    intro W kv ids hW hk hi
    by_cases hT : RightT ⟨rs, l⟩
    · have h1 := tKnown rs l ids rv bv kv W (hE.mono hW) (hr.mono hW) (hv.mono hW) hk hf hrl hT
      have h2 : knownF l ids = n := by
        rw [hn.2 hT]
        unfold topR
        rcases hi with ⟨rfl, h⟩ | ⟨rfl, h⟩
        · rw [if_pos h]
          rfl
        · rw [if_neg h]
      rw [h2] at h1
      exact h1
    · have h1 := tKnownNo rs l rv bv kv W (hE.mono hW) (hr.mono hW) (hv.mono hW) hf hrl hT
      rw [hn.1 hT]
      exact h1
  have KK := Lib.hid hK
  have HFR := Lib.hid hfr
  clear hE hr hv hf hrl hK hfr hn
  by_cases h0 : id = 0
  · subst h0
    go_enter Tryz.func102, Tryz.ntmps102
    go_wp2_with fail
    refine (KK.out _ _ [] ((Grew.refl w).alloc _) (SlI.nil _) (.inl (by simp))).mono ?_
    rintro e w1 ⟨rfl, g1⟩
    dsimp only
    go_wp2
    go_ret
    exact ⟨rfl, ((Grew.refl w).alloc _).trans g1⟩
  · have h0' : (id == 0) = false := by simpa using h0
    have H0 := Lib.hid h0
    clear h0
    go_enter Tryz.func102, Tryz.ntmps102
    go_wp2_with fail
    refine (KK.out _ _ [id] (((Grew.refl w).alloc _).alloc _) (by have := HFR.out (w.alloc (.cells #[rv, bv] 25)); simpa using this) (.inr ⟨rfl, H0.out⟩)).mono ?_
    rintro e w1 ⟨rfl, g1⟩
    dsimp only
    go_wp2
    go_ret
    exact ⟨rfl, (((Grew.refl w).alloc _).alloc _).trans g1⟩
/-- The children of a unit of a right tree: the list itself, not a copy. -/
theorem tKids0 (rs : List Int) (l : List Br) (id : Int) (rv bv : Value) (w0 w : World) (hr : SlI w0 rv rs) (hv : SlBr w0 bv l) (hg : Grew w0 w) (hf : l.length ≤ 1000000) (hT : RightT ⟨rs, l⟩) (hid : id = 0 ∨ ∃ b, brFind l id = some b) :
    Calls Tryz.prog 145 #[.agg #[rv, bv], .int .i64 id] w fun e w' => ∃ v, e = .returned v ∧ SlI w0 v (childs ⟨rs, l⟩ id) ∧ Grew w w' := by
  unfold childs
  by_cases h0 : id = 0
  · subst h0
    rw [if_pos rfl]
    have HR := Lib.hid hr
    obtain ⟨B, d, rfl, -, -, -⟩ := hr.open_
    clear hr hv hg hid
    go_enter Tryz.func145, Tryz.ntmps145
    go_wp2
    go_ret
    exact ⟨_, rfl, HR.out, (Grew.refl w).alloc _⟩
  · obtain ⟨b, hb⟩ := hid.resolve_left h0
    rw [if_neg h0]
    obtain ⟨k, hk, _, e⟩ := brIdx_some hb
    have hidk : l[k].id = id := by
      rw [e]
      exact (find_in hb).2
    obtain ⟨h1, h2⟩ := at_some hT.2.1 id k hk hidk
    have kA := fun W (hW : Grew w W) => tAt l id rv bv W (hv.mono (hg.trans hW)) hf (cmpId_mono hT.2.1 id)
    rw [h1, h2] at kA
    have KA := Lib.hid kA
    obtain ⟨A, c, rfl, hlc, hc, hrr⟩ := hv.open_
    unfold maxLen at hc
    obtain ⟨bb, off, rfl, hbk, hcell⟩ := hrr (by omega)
    obtain ⟨kv, hkv, hcl⟩ := hcell k hk
    have HKV : RowKit.Hid (SlI w0 kv (match brFind l id with | none => [] | some b => b.kids)) := by
      rw [hb]
      rw [e] at hkv
      exact hkv
    show Calls Tryz.prog 145 #[.agg #[rv, .slice (some ⟨bb, off, none⟩) l.length c], .int .i64 id] w fun e w' => ∃ v, e = .returned v ∧ SlI w0 v (match brFind l id with | none => [] | some b => b.kids) ∧ Grew w w'
    generalize (match brFind l id with | none => [] | some b => b.kids) = K at HKV ⊢
    have hcl5 : ∀ W, Grew w0 W → W.cell? ⟨bb, off + k * 6 + 5, none⟩ = some kv := fun W hW => (hcl W hW).2.2.2.2.2
    have HC := Lib.hid hcl5
    have HG := Lib.hid hg
    have h0' : (id == 0) = false := by simpa using h0
    have hkz : (k : Int) < (l.length : Int) := by omega
    have h0z : (0 : Int) ≤ (k : Int) := by omega
    obtain ⟨Az, cz, rfl, -, -, -⟩ := hkv.open_
    clear hr hv hg hid hb e h1 h2 kA hrr hcell hcl hcl5 hkv hT h0 hidk
    go_enter Tryz.func145, Tryz.ntmps145
    go_wp2_with fail
    refine (KA.out _ ((Grew.refl w).alloc _)).mono ?_
    rintro e w1 ⟨rfl, g1⟩
    have b0 := new_cell g1 0 _ rfl
    have b1 := new_cell g1 1 _ rfl
    have HG1 := Lib.hid (((Grew.refl w).alloc _).trans g1)
    have c5 := HC.out w1 (HG.out.trans HG1.out)
    clear g1
    dsimp only
    go_wp2
    go_ret
    exact ⟨_, rfl, HKV.out, HG1.out⟩
theorem top_found {l : List Br} {id : Int} (h : topR l id = 0) : id = 0 ∨ ∃ b, brFind l id = some b := by
  unfold topR at h
  by_cases h0 : id = 0
  · exact .inl h0
  · rw [if_neg h0] at h
    unfold knownF at h
    cases hb : brFind l id with
    | none => simp [hb] at h
    | some b => exact .inr ⟨b, rfl⟩
def RetIs (r : List Int × Int) (w : World) (e : Ending) (w' : World) : Prop := ∃ v, e = .returned (.tuple #[v, .int .i64 r.2]) ∧ SlI w' v r.1 ∧ Grew w w'
end Go.Proofs.YtjaknioojpgkiaaGreatDoor

/- tree.walk: what its recursive closure does, by induction on how far down the tree goes. The conditions: the tree is right; the rounds write one box and the row behind it alone. -/
namespace Go.Proofs.YtjaknioojpgkiaaGreatDoor
open Go.RowKit Go.Shelf

attribute [local go_sem] Oper.semAt_some

theorem room_free {F : Fence} (hd : F.depth = none) (k : Nat) : F.room k := fun d h => by rw [hd] at h; cases h
theorem roundFree {F : Fence} (hd : F.depth = none) {m m' : Nat} {P : Program} {l : Nat} {f : FuncId} {tmps : Array Value} {assign body : Code} {w : World} {R : Ending → World → Prop}
    (h : RoundIn F m P l f tmps assign body w R) : RoundIn F m' P l f tmps assign body w R := ⟨h.1, fun c cs _ => h.2 c cs (room_free hd _)⟩
theorem yieldFree {F : Fence} (hd : F.depth = none) {m : Nat} (m' : Nat) {P : Program} {l : Nat} {args : Array Value} {W : World} {R : Ending → World → Prop} (h : YieldAt F m P l args W R) : YieldAt F m' P l args W R := by
  obtain ⟨fn, tmps, assign, body, hy, hR⟩ := h
  exact ⟨fn, tmps, assign, body, hy, roundFree hd hR⟩

/-- All blocks of cells stay but block B and the row to which it leads. -/
structure KpO (B : Nat) (W W' : World) : Prop where
  size : W.heap.size ≤ W'.heap.size
  block : ∀ k o, W.heap[k]? = some o → o.isCells = true → k ≠ B → (∀ v, W.cell? ⟨B, 0, none⟩ = some v → v.ownBlock ≠ some k) → W'.heap[k]? = some o
  row : ∀ v', W'.cell? ⟨B, 0, none⟩ = some v' → (∃ v, W.cell? ⟨B, 0, none⟩ = some v ∧ v.ownBlock = v'.ownBlock) ∨ ∀ b, v'.ownBlock = some b → W.heap.size ≤ b ∧ b < W'.heap.size
/-- Block B is there, and what it leads to is there. -/
def OutIn (B : Nat) (W : World) : Prop := B < W.heap.size ∧ ∀ v, W.cell? ⟨B, 0, none⟩ = some v → ∀ b, v.ownBlock = some b → b < W.heap.size
/-- Block k holds o, and is neither block B nor the row to which B leads. -/
def Prot (B : Nat) (W : World) (k : Nat) (o : Obj) : Prop := W.heap[k]? = some o ∧ o.isCells = true ∧ k ≠ B ∧ ∀ v, W.cell? ⟨B, 0, none⟩ = some v → v.ownBlock ≠ some k
def KpB (n₀ B : Nat) (W W' : World) : Prop := Below n₀ W W' ∧ KpO B W W'
section
variable {n₀ B k : Nat} {W W' W2 : World} {o : Obj}
theorem KpO.refl (B : Nat) (W : World) : KpO B W W := ⟨Nat.le_refl _, fun _ _ h _ _ _ => h, fun v' h => .inl ⟨v', h, rfl⟩⟩
theorem KpO.trans (h : KpO B W W') (j : KpO B W' W2) : KpO B W W2 := by
  refine ⟨Nat.le_trans h.size j.size, fun k o ho hc hne hr => ?_, fun v' hv' => ?_⟩
  · refine j.block k o (h.block k o ho hc hne hr) hc hne fun v' hv' hb => ?_
    have hk := (Array.getElem?_eq_some_iff.1 ho).1
    rcases h.row v' hv' with ⟨v, hv, e⟩ | h2
    · exact hr v hv (by rw [e]; exact hb)
    · have := (h2 k hb).1
      omega
  · rcases j.row v' hv' with ⟨v, hv, e⟩ | h2
    · rcases h.row v hv with ⟨u, hu, e2⟩ | h3
      · exact .inl ⟨u, hu, e2.trans e⟩
      · refine .inr fun b hb => ?_
        have h4 := h3 b (by rw [e]; exact hb)
        have := j.size
        omega
    · refine .inr fun b hb => ?_
      have h4 := h2 b hb
      have := h.size
      omega
theorem KpO.grew (hB : B < W.heap.size) (h : Grew W W') : KpO B W W' :=
  ⟨h.size, fun k o ho _ _ _ => by rw [h.block k (Array.getElem?_eq_some_iff.1 ho).1]; exact ho, fun v' hv' => .inl ⟨v', by rw [← h.cell hB]; exact hv', rfl⟩⟩
theorem OutIn.kp (h : OutIn B W) (j : KpO B W W') : OutIn B W' := by
  refine ⟨Nat.lt_of_lt_of_le h.1 j.size, fun v' hv' b hb => ?_⟩
  rcases j.row v' hv' with ⟨v, hv, e⟩ | h2
  · exact Nat.lt_of_lt_of_le (h.2 v hv b (by rw [e]; exact hb)) j.size
  · exact (h2 b hb).2
theorem Prot.kp (h : Prot B W k o) (j : KpO B W W') : Prot B W' k o := by
  obtain ⟨h1, h2, h3, h4⟩ := h
  refine ⟨j.block k o h1 h2 h3 h4, h2, h3, fun v' hv' hb => ?_⟩
  have hk := (Array.getElem?_eq_some_iff.1 h1).1
  rcases j.row v' hv' with ⟨v, hv, e⟩ | h5
  · exact h4 v hv (by rw [e]; exact hb)
  · have := (h5 k hb).1
    omega
theorem Prot.new (h : OutIn B W) (hc : o.isCells = true) : Prot B (W.alloc o) W.heap.size o := by
  refine ⟨World.alloc_heap_new W o, hc, by have := h.1; omega, fun v hv hb => ?_⟩
  have hv2 : W.cell? ⟨B, 0, none⟩ = some v := by rw [← hv]; exact (World.cell?_alloc_lt _ _ _ h.1).symm
  have := h.2 v hv2 _ hb
  omega
theorem Prot.cell {vs : Array Value} {t : TypeId} (h : Prot B W k (.cells vs t (0, 0))) (j : Nat) (v : Value) (hj : vs[j]? = some v) : W.cell? ⟨k, j, none⟩ = some v := by
  simp [World.cell?, h.1, hj]
theorem KpB.refl (n₀ B : Nat) (W : World) : KpB n₀ B W W := ⟨Below.refl _ _, KpO.refl _ _⟩
theorem KpB.trans (h : KpB n₀ B W W') (j : KpB n₀ B W' W2) : KpB n₀ B W W2 := ⟨h.1.trans j.1, h.2.trans j.2⟩
theorem KpB.grew (hB : B < W.heap.size) (hn : n₀ ≤ W.heap.size) (h : Grew W W') : KpB n₀ B W W' := ⟨h.below.mono hn, KpO.grew hB h⟩
theorem kpB_put {w : World} (hn : n₀ ≤ w.heap.size) (hB : B < w.heap.size) (W : World) (l : Nat) (o o' : Obj) (hl : w.heap.size ≤ l) (h : W.heap[l]? = some o) (hc : o.isCells = false) (hw : o.isWalk = false) : KpB n₀ B W (W.putObj l o') := by
  have hg := grownBy_putObj' W l o'
  refine ⟨belowK_b hn W l o o' hl h hc hw, hg.size, fun k o2 ho hc2 _ _ => ?_, fun v' hv' => .inl ⟨v', ?_, rfl⟩⟩
  · rw [hg.block k (Array.getElem?_eq_some_iff.1 ho).1 (fun e => ?_)]
    · exact ho
    · injection e with e
      subst e
      rw [h] at ho
      injection ho with ho
      rw [← ho, hc] at hc2
      cases hc2
  · have hBW : B < W.heap.size := by have := (Array.getElem?_eq_some_iff.1 h).1; omega
    rw [← hv']
    exact (World.cell?_of_block (hg.block B hBW (fun e => by injection e with e; omega))).symm
end
/-- slices.IndexFunc at numbers, the function that is handed over doing whatever it does: R i holds behind i rounds; St holds where it has said yes. -/
theorem idxEff (l : List Int) (g : Nat) (lb : Array Value) (eg : ∀ args w, (callFunc g args).run Tryz.prog w = .ok (.enter g args) w) (v : Value) (w0 w : World) (hv : SlI w0 v l) (R : Nat → World → Prop) (St : World → Prop) (hR0 : R 0 w) (hRg : ∀ i W, R i W → Grew w0 W)
    (hp : ∀ i (hi : i < l.length) W, R i W → Calls Tryz.prog g (#[(.int .i64 l[i])] ++ lb) W fun e w' => (e = .returned (.bool false) ∧ R (i + 1) w') ∨ (e = .returned (.bool true) ∧ St w')) :
    Calls Tryz.prog 104 #[v, .func (.func g) #[] lb] w fun e w' => (e = .returned (.int .i64 (-1)) ∧ R l.length w') ∨ (∃ i : Nat, e = .returned (.int .i64 (i : Int)) ∧ St w') := by
  obtain ⟨A, c, rfl, hlc, hc, hr⟩ := hv.open_
  unfold maxLen at hc
  have HR := Lib.hid hr
  have HP := Lib.hid hp
  have HG := Lib.hid hRg
  have HR0 := Lib.hid hR0
  clear hr hp hv hRg hR0
  go_enter Tryz.func104, Tryz.ntmps104
  go_wp2
  go_loopg [5, 8] l.length (fun gg _ s8 wr => ∃ kk : Nat, kk ≤ l.length ∧ l.length - kk ≤ gg ∧ s8 = .int .i64 kk ∧ Aside (R kk wr))
  case atStart => exact ⟨0, Nat.zero_le _, by omega, rfl, HR0.out⟩
  case round =>
    obtain ⟨kk, hkk, hg, rfl, BW⟩ := hrel
    by_cases hlt : kk < l.length
    · obtain ⟨b, off, rfl, hb, hcell⟩ := HR.out (by omega)
      obtain c0 := hcell wr (HG.out kk wr BW.out) kk hlt
      have hcall := HP.out kk hlt wr BW.out
      have hltz : (kk : Int) < (l.length : Int) := by omega
      clear hcell
      generalize l[kk] = y at c0 hcall
      go_wp2_with (go_at_fn g; refine hcall.mono ?_; rintro e w' (⟨rfl, hb'⟩ | ⟨rfl, hb'⟩))
      · go_roundg (l.length - (kk + 1))
        case measure => omega
        case rel => exact ⟨kk + 1, by omega, by omega, by go_num, (show Aside _ from hb')⟩
      · go_ret
        exact .inr ⟨kk, rfl, hb'⟩
    · have hltz : ¬ (kk : Int) < (l.length : Int) := by omega
      obtain rfl : kk = l.length := by omega
      go_wp2
      go_ret
      exact .inl ⟨rfl, BW.out⟩
theorem containsEff (l : List Int) (g : Nat) (lb : Array Value) (eg : ∀ args w, (callFunc g args).run Tryz.prog w = .ok (.enter g args) w) (v : Value) (w0 w : World) (hv : SlI w0 v l) (R : Nat → World → Prop) (St : World → Prop) (hR0 : R 0 w) (hRg : ∀ i W, R i W → Grew w0 W)
    (hp : ∀ i (hi : i < l.length) W, R i W → Calls Tryz.prog g (#[(.int .i64 l[i])] ++ lb) W fun e w' => (e = .returned (.bool false) ∧ R (i + 1) w') ∨ (e = .returned (.bool true) ∧ St w')) :
    Calls Tryz.prog 41 #[v, .func (.func g) #[] lb] w fun e w' => (e = .returned (.bool false) ∧ R l.length w') ∨ (e = .returned (.bool true) ∧ St w') := by
  have K := Lib.hid (idxEff l g lb eg v w0 w hv R St hR0 hRg hp)
  clear hv hR0 hRg hp
  go_enter Tryz.func41, Tryz.ntmps41
  go_wp2_with fail
  refine K.out.mono ?_
  rintro e w1 (⟨rfl, h⟩ | ⟨i, rfl, h⟩)
  · dsimp only
    go_wp2
    go_ret
    exact .inl ⟨rfl, h⟩
  · have h0 : (0 : Int) ≤ (i : Int) := by omega
    dsimp only
    go_wp2
    go_ret
    exact .inr ⟨rfl, h⟩
end Go.Proofs.YtjaknioojpgkiaaGreatDoor
