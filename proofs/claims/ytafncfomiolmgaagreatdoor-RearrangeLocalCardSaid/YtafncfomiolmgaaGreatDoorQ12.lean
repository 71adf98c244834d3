/- Lemmas on what the functions of the program and of the library compute: Bw2, Bw3, Bw4, RT2, PlainBu, PlainBw, RT4, Es9a, Es9b. The conditions stand at each. -/
import Derived.Test.YtafncfomiolmgaaGreatDoorQ11
import Derived.Laws.EntriesVeiled
import Derived.Maps.OwnIn
import Derived.Test.YtafncfomiolmgaaGreatDoorQ2
import Derived.Test.YtafncfomiolmgaaGreatDoorQ8
import Derived.Test.YtafncfomiolmgaaGreatDoorQ3
import Derived.Test.YtafncfomiolmgaaGreatDoorQ4
import Derived.Test.YtafncfomiolmgaaGreatDoorQ5
import Derived.Test.YtafncfomiolmgaaGreatDoorQ1
import Derived.Deep.RegionHeld3
import Derived.Deep.DeepCutAuto
import Derived.Sort.OwnSorted
import Derived.Maps.AppendAt
import Derived.RangeFuncBox
import Derived.RangeFuncLeaves
import Derived.OwnWalkIn
import Derived.TacticsInMore
import Derived.LoopNIn
import Derived.LoopIn
import Derived.Test.YtafncfomiolmgaaGreatDoorProg
import Derived.RangeFuncCalls
import Derived.Test.YtafncfomiolmgaaGreatDoorQ9
import Derived.Deep.AppendLies
/- tree.walk's recursive closure: it hands on a unit and all that are below it. The conditions: the tree is right; the rounds write one box and the row behind it alone. -/
namespace Go.Proofs.YtafncfomiolmgaaGreatDoor
open Go.RowKit Go.Shelf

attribute [local go_sem] Oper.semAt_some

/-- The boxes that the closure reads. -/
structure Boxes (B lp Yb Tb Vb : Nat) (rv bv : Value) (W : World) : Prop where
  y : ∃ t, Prot B W Yb (.cells #[.func (.yield lp) #[] #[]] t (0, 0))
  t : ∃ t, Prot B W Tb (.cells #[rv, bv] t (0, 0))
  v : ∃ t, Prot B W Vb (.cells #[.func (.func 120) #[] #[.pointer (some ⟨Yb, 0, none⟩), .pointer (some ⟨Tb, 0, none⟩), .pointer (some ⟨Vb, 0, none⟩)]] t (0, 0))
theorem Boxes.kp {B lp Yb Tb Vb : Nat} {rv bv : Value} {W W' : World} (h : Boxes B lp Yb Tb Vb rv bv W) (j : KpO B W W') : Boxes B lp Yb Tb Vb rv bv W' :=
  ⟨h.y.imp fun _ p => p.kp j, h.t.imp fun _ p => p.kp j, h.v.imp fun _ p => p.kp j⟩
/-- How the closure ends: all of L has come, or a part of it. -/
def VisEnd (J Jx : List (Int × Int) → World → Prop) (n₀ B : Nat) (L : List Int) (pre : List (Int × Int)) (W : World) (e : Ending) (W' : World) : Prop :=
  (e = .returned (.bool true) ∧ (∃ ys : List (Int × Int), ys.map Prod.fst = L ∧ J (pre ++ ys) W') ∧ KpB n₀ B W W') ∨ (e = .returned (.bool false) ∧ ∃ ys : List (Int × Int), ys.map Prod.fst <+: L ∧ Jx (pre ++ ys) W')
theorem tVisit1 (kid above : Int) (Vb Ab : Nat) (p1 p2 p3 : Value) (W : World) (c1 : W.cell? ⟨Vb, 0, none⟩ = some (.func (.func 120) #[] #[p1, p2, p3])) (c2 : W.cell? ⟨Ab, 0, none⟩ = some (.int .i64 above)) (R1 R2 : World → Prop)
    (h : ∀ a : Int, Calls Tryz.prog 120 (#[.int .i64 kid, .int .i64 a] ++ #[p1, p2, p3]) W fun e W' => (e = .returned (.bool true) ∧ R1 W') ∨ (e = .returned (.bool false) ∧ R2 W')) :
    Calls Tryz.prog 122 (#[.int .i64 kid] ++ #[.pointer (some ⟨Vb, 0, none⟩), .pointer (some ⟨Ab, 0, none⟩)]) W fun e W' => (e = .returned (.bool false) ∧ R1 W') ∨ (e = .returned (.bool true) ∧ R2 W') := by
  have H := Lib.hid h
  clear h
  go_enter Tryz.func122, Tryz.ntmps122
  go_wp2_with fail
  refine (H.out _).mono ?_
  rintro e w' (⟨rfl, hb'⟩ | ⟨rfl, hb'⟩)
  · dsimp only
    go_wp2
    go_ret
    exact .inl ⟨rfl, hb'⟩
  · dsimp only
    go_wp2
    go_ret
    exact .inr ⟨rfl, hb'⟩
theorem enters_tVisit1 : ∀ args w, (callFunc 122 args).run Tryz.prog w = .ok (.enter 122 args) w := enters_of Tryz.func122 (by kernel_rfl) rfl
theorem flat_next (g : Int → List Int) (ks : List Int) (i : Nat) (hi : i < ks.length) : (ks.take (i + 1)).flatMap g = (ks.take i).flatMap g ++ g ks[i] := by
  rw [List.take_succ_eq_append_getElem hi, List.flatMap_append]
  simp
theorem flat_split (g : Int → List Int) (ks : List Int) (i : Nat) (hi : i < ks.length) : ks.flatMap g = (ks.take i).flatMap g ++ (g ks[i] ++ (ks.drop (i + 1)).flatMap g) := by
  have h : ks.flatMap g = (ks.take (i + 1) ++ ks.drop (i + 1)).flatMap g := by rw [List.take_append_drop]
  rw [h, List.flatMap_append, flat_next g ks i hi, List.append_assoc]
/-- What holds behind i children. -/
def VisR (B lp Yb Tb Vb : Nat) (rv bv : Value) (w0 W : World) (above : Int) (pre : List (Int × Int)) (J : List (Int × Int) → World → Prop) (ks : List Int) (g : Int → List Int) (i : Nat) (W' : World) : Prop :=
  Boxes B lp Yb Tb Vb rv bv W' ∧ OutIn B W' ∧ Prot B W' W.heap.size (.cells #[.int .i64 above] 3 (0, 0)) ∧ Grew w0 W' ∧ KpB w0.heap.size B W W' ∧ ∃ ys : List (Int × Int), ys.map Prod.fst = (ks.take i).flatMap g ∧ J (pre ++ ys) W'
theorem VisR.grew {B lp Yb Tb Vb : Nat} {rv bv : Value} {w0 W W' : World} {above : Int} {pre : List (Int × Int)} {J : List (Int × Int) → World → Prop} {ks : List Int} {g : Int → List Int} {i : Nat} (h : VisR B lp Yb Tb Vb rv bv w0 W above pre J ks g i W') : Grew w0 W' := h.2.2.2.1
def VisS (pre : List (Int × Int)) (Jx : List (Int × Int) → World → Prop) (ks : List Int) (g : Int → List Int) (W' : World) : Prop := ∃ ys : List (Int × Int), ys.map Prod.fst <+: ks.flatMap g ∧ Jx (pre ++ ys) W'
theorem visStep {B lp Yb Tb Vb N : Nat} {rv bv : Value} {w0 W W4 : World} {above : Int} {pre : List (Int × Int)} {J Jx : List (Int × Int) → World → Prop} {ks : List Int} {g : Int → List Int} {i : Nat} (hi : i < ks.length) (hN : pre.length + (ks.flatMap g).length ≤ N)
    (hK : ∀ above pre W, Boxes B lp Yb Tb Vb rv bv W → OutIn B W → Grew w0 W → J pre W → pre.length + (g ks[i]).length ≤ N →
      Calls Tryz.prog 120 #[.int .i64 ks[i], .int .i64 above, .pointer (some ⟨Yb, 0, none⟩), .pointer (some ⟨Tb, 0, none⟩), .pointer (some ⟨Vb, 0, none⟩)] W (VisEnd J Jx w0.heap.size B (g ks[i]) pre W))
    (h : VisR B lp Yb Tb Vb rv bv w0 W above pre J ks g i W4) :
    Calls Tryz.prog 122 (#[.int .i64 ks[i]] ++ #[.pointer (some ⟨Vb, 0, none⟩), .pointer (some ⟨W.heap.size, 0, none⟩)]) W4 fun e W' => (e = .returned (.bool false) ∧ VisR B lp Yb Tb Vb rv bv w0 W above pre J ks g (i + 1) W') ∨ (e = .returned (.bool true) ∧ VisS pre Jx ks g W') := by
  obtain ⟨hB, hO, hPA, hG, hK4, ys, hys, hj⟩ := h
  obtain ⟨tv, hpv⟩ := hB.v
  have hsp := flat_split g ks i hi
  have hlen : ys.length = ((ks.take i).flatMap g).length := by rw [← hys, List.length_map]
  refine tVisit1 ks[i] above Vb W.heap.size _ _ _ W4 (hpv.cell 0 _ rfl) (hPA.cell 0 _ rfl) _ _ fun a => ?_
  refine (hK a (pre ++ ys) W4 hB hO hG hj ?_).mono ?_
  · rw [hsp] at hN
    simp only [List.length_append] at hN ⊢
    omega
  · rintro e W' (⟨rfl, ⟨zs, hzs, hj'⟩, hk'⟩ | ⟨rfl, zs, hzs, hj'⟩)
    · refine .inl ⟨rfl, hB.kp hk'.2, hO.kp hk'.2, hPA.kp hk'.2, Below.trans hG hk'.1, hK4.trans hk', ys ++ zs, ?_, by rw [← List.append_assoc]; exact hj'⟩
      rw [flat_next g ks i hi, List.map_append, hys, hzs]
    · refine .inr ⟨rfl, ys ++ zs, ?_, by rw [← List.append_assoc]; exact hj'⟩
      rw [hsp, List.map_append, hys]
      obtain ⟨r, hr⟩ := hzs
      exact ⟨r ++ (ks.drop (i + 1)).flatMap g, by rw [← hr]; simp⟩
set_option maxHeartbeats 4000000 in
set_option maxRecDepth 100000 in
/-- One activation: the unit itself, and then what its children hand on. -/
theorem tVisitBody (rs : List Int) (l : List Br) (rv bv : Value) (w0 : World) (hr : SlI w0 rv rs) (hv : SlBr w0 bv l) (hf : l.length ≤ 1000000) (hT : RightT ⟨rs, l⟩) (B lp Yb Tb Vb N : Nat) (J Jx : List (Int × Int) → World → Prop)
    (hJ : ∀ s W W', J s W → Grew W W' → J s W')
    (hY : ∀ m pre (x : Int × Int) W, J pre W → pre.length < N → YieldAt Fence.wide m Tryz.prog lp #[.int .i64 x.1, .int .i64 x.2] W fun e W' =>
      (e = .returned (.bool true) ∧ J (pre ++ [x]) W' ∧ KpB w0.heap.size B W W') ∨ (e = .returned (.bool false) ∧ Jx (pre ++ [x]) W'))
    (x : Int) (hid : x = 0 ∨ ∃ b, brFind l x = some b) (g : Int → List Int)
    (hK : ∀ k ∈ childs ⟨rs, l⟩ x, ∀ above pre W, Boxes B lp Yb Tb Vb rv bv W → OutIn B W → Grew w0 W → J pre W → pre.length + (g k).length ≤ N →
      Calls Tryz.prog 120 #[.int .i64 k, .int .i64 above, .pointer (some ⟨Yb, 0, none⟩), .pointer (some ⟨Tb, 0, none⟩), .pointer (some ⟨Vb, 0, none⟩)] W (VisEnd J Jx w0.heap.size B (g k) pre W))
    (above : Int) (pre : List (Int × Int)) (W : World) (hB : Boxes B lp Yb Tb Vb rv bv W) (hO : OutIn B W) (hG : Grew w0 W) (hj : J pre W) (hN : pre.length + (x :: (childs ⟨rs, l⟩ x).flatMap g).length ≤ N) :
    Calls Tryz.prog 120 #[.int .i64 x, .int .i64 above, .pointer (some ⟨Yb, 0, none⟩), .pointer (some ⟨Tb, 0, none⟩), .pointer (some ⟨Vb, 0, none⟩)] W (VisEnd J Jx w0.heap.size B (x :: (childs ⟨rs, l⟩ x).flatMap g) pre W) := by
  simp only [List.length_cons] at hN
  obtain ⟨W1, hW1⟩ : ∃ W1, W1 = W.alloc (.cells #[.int .i64 above] 3) := ⟨_, rfl⟩
  have hn0 : w0.heap.size ≤ W.heap.size := hG.size
  have hgA : Grew W W1 := by rw [hW1]; exact (Grew.refl W).alloc _
  have hkA : KpB w0.heap.size B W W1 := KpB.grew hO.1 hn0 hgA
  have hPA : Prot B W1 W.heap.size (.cells #[.int .i64 above] 3 (0, 0)) := by rw [hW1]; exact Prot.new hO rfl
  have hB1 := hB.kp hkA.2
  have hO1 := hO.kp hkA.2
  obtain ⟨fn, tmps, assign, body, hy, hR⟩ := hY 8 pre (x, above) W1 (hJ _ _ _ hj hgA) (by omega)
  obtain ⟨ty, hpy⟩ := hB1.y
  have cy : W1.cell? ⟨Yb, 0, none⟩ = some (.func (.yield lp) #[] #[]) := hpy.cell 0 _ rfl
  have ca : W1.cell? ⟨W.heap.size, 0, none⟩ = some (.int .i64 above) := hPA.cell 0 _ rfl
  have HPA := Lib.hid hPA
  have HB1 := Lib.hid hB1
  have HO1 := Lib.hid hO1
  have HKA := Lib.hid hkA
  have HG1 := Lib.hid (hG.trans hgA)
  have HN := Lib.hid hN
  have HK := Lib.hid hK
  have HJ := Lib.hid hJ
  have HKI := Lib.hid (fun W (hW : Grew w0 W) => tKids0 rs l x rv bv w0 W hr hv hW hf hT hid)
  generalize childs ⟨rs, l⟩ x = ks at HN HK HKI ⊢
  clear hr hv hT hJ hY hK hB hO hG hj hN hgA hkA hPA hB1 hO1 hpy hid hf hn0
  subst hW1
  refine (callsIn_wide (n := 9)).1 ?_
  refine callsIn_of_wp Tryz.func120 rfl trivial ?_ rfl
  simp only [Tryz.ntmps120, List.size_toArray, List.length_cons, List.length_nil, Nat.reduceAdd, Nat.reduceSub, Array.replicate_succ, Array.replicate_zero, List.push_toArray, List.append_toArray, List.nil_append, List.cons_append]
  gi_wp2_with fail
  refine hR.mono ?_
  rintro e W2 (⟨rfl, hJ2, hk2⟩ | ⟨rfl, hJx2⟩)
  · have HK2 := Lib.hid (HKA.out.trans hk2)
    have HB2 := Lib.hid (HB1.out.kp hk2.2)
    have HO2 := Lib.hid (HO1.out.kp hk2.2)
    have HPA2 := Lib.hid (HPA.out.kp hk2.2)
    have HG2 := Lib.hid (show Grew w0 W2 from Below.trans HG1.out hk2.1)
    obtain ⟨tt, hpt⟩ := HB2.out.t
    have t0 : W2.cell? ⟨Tb, 0, none⟩ = some rv := hpt.cell 0 _ rfl
    have t1 : W2.cell? ⟨Tb, 1, none⟩ = some bv := hpt.cell 1 _ rfl
    have HJ2 := Lib.hid hJ2
    clear hk2 hpt hJ2
    dsimp only
    gi_wp2_with fail
    refine ⟨trivial, (callsIn_wide.2 (HKI.out _ HG2.out)).mono ?_⟩
    rintro e W3 ⟨v3, rfl, s3, g3⟩
    have hk3 : KpB w0.heap.size B W2 W3 := KpB.grew HO2.out.1 HG2.out.size g3
    have hc := containsEff ks 122 #[.pointer (some ⟨Vb, 0, none⟩), .pointer (some ⟨W.heap.size, 0, none⟩)] enters_tVisit1 v3 w0 W3 s3 (VisR B lp Yb Tb Vb rv bv w0 W above (pre ++ [(x, above)]) J ks g) (VisS (pre ++ [(x, above)]) Jx ks g)
      ⟨HB2.out.kp hk3.2, HO2.out.kp hk3.2, HPA2.out.kp hk3.2, HG2.out.trans g3, HK2.out.trans hk3, [], by simp, by simpa using HJ.out _ _ _ HJ2.out g3⟩ (fun _ _ h => h.grew) (fun i hi W4 hR4 => visStep hi (by have := HN.out; simp only [List.length_append, List.length_cons, List.length_nil]; omega) (HK.out ks[i] (List.getElem_mem hi)) hR4)
    have HC := Lib.hid hc
    clear hk3 hc t0 t1 g3
    dsimp only
    gi_wp2_with fail
    refine ⟨trivial, (callsIn_wide.2 HC.out).mono ?_⟩
    rintro e W4 (⟨rfl, h4⟩ | ⟨rfl, h4⟩)
    · dsimp only
      gi_wp2
      go_ret
      obtain ⟨-, -, -, -, hk4, ys, hys, hj4⟩ := h4
      rw [List.take_length] at hys
      exact .inl ⟨rfl, ⟨(x, above) :: ys, by simp [hys], by simpa [List.append_assoc] using hj4⟩, hk4⟩
    · dsimp only
      gi_wp2
      go_ret
      obtain ⟨ys, hys, hj4⟩ := h4
      exact .inr ⟨rfl, (x, above) :: ys, by simpa using hys, by simpa [List.append_assoc] using hj4⟩
  · dsimp only
    gi_wp2
    go_ret
    exact .inr ⟨rfl, [(x, above)], by simp, hJx2⟩
end Go.Proofs.YtafncfomiolmgaaGreatDoor

/- tree.walk and tree.Below, walked. The conditions: the library's own variables hold what they must; the lists are short. -/
namespace Go.Proofs.YtafncfomiolmgaaGreatDoor
open Go.RowKit Go.Shelf

attribute [local go_sem] Oper.semAt_some

theorem Prot.fresh {B k : Nat} {W W' : World} {o : Obj} (h : OutIn B W) (hg : Grew W W') (hk : W.heap.size ≤ k) (ho : W'.heap[k]? = some o) (hc : o.isCells = true) : Prot B W' k o := by
  refine ⟨ho, hc, by have := h.1; omega, fun v hv hb => ?_⟩
  rw [hg.cell h.1] at hv
  have := h.2 v hv _ hb
  omega
theorem cell_two (W : World) (o : Obj) (v : Value) (t : TypeId) : ((W.alloc o).alloc (.cells #[v] t)).cell? ⟨W.heap.size + 1, 0, none⟩ = some v ∧ ((W.alloc o).alloc (.cells #[v] t)).frozen? ⟨W.heap.size + 1, 0, none⟩ = false := by
  have h := World.alloc_heap_new (W.alloc o) (.cells #[v] t)
  rw [World.size_alloc] at h
  exact ⟨cell_of_one h, free_of_one h⟩
theorem func_one (f : Fn) (b : Array Value) : (Value.func f #[] b).oneCell' = true := by simp [Value.oneCell']
/-- What holds behind k roots. -/
def RootR (B lp Yb Tb Vb : Nat) (rv bv : Value) (w0 : World) (J : List (Int × Int) → World → Prop) (rs : List Int) (g : Int → List Int) (k : Nat) (W : World) : Prop :=
  Boxes B lp Yb Tb Vb rv bv W ∧ OutIn B W ∧ Grew w0 W ∧ ∃ ys : List (Int × Int), ys.map Prod.fst = (rs.take k).flatMap g ∧ J ys W
theorem rootStep {B lp Yb Tb Vb : Nat} {rv bv : Value} {w0 W W5 : World} {J : List (Int × Int) → World → Prop} {rs : List Int} {g : Int → List Int} {k : Nat} {ys zs : List (Int × Int)} (hk : k < rs.length) (hB : Boxes B lp Yb Tb Vb rv bv W) (hO : OutIn B W) (hG : Grew w0 W) (hys : ys.map Prod.fst = (rs.take k).flatMap g)
    (h1 : zs.map Prod.fst = g rs[k]) (h2 : J (ys ++ zs) W5) (h3 : KpB w0.heap.size B W W5) : RootR B lp Yb Tb Vb rv bv w0 J rs g (k + 1) W5 :=
  ⟨hB.kp h3.2, hO.kp h3.2, Below.trans hG h3.1, ys ++ zs, by rw [flat_next g rs k hk, List.map_append, hys, h1], h2⟩
theorem rootStop {rs : List Int} {g : Int → List Int} {k : Nat} {ys zs : List (Int × Int)} (hk : k < rs.length) (hys : ys.map Prod.fst = (rs.take k).flatMap g) (h1 : zs.map Prod.fst <+: g rs[k]) : (ys ++ zs).map Prod.fst <+: rs.flatMap g := by
  rw [flat_split g rs k hk, List.map_append, hys]
  obtain ⟨r, hr⟩ := h1
  exact ⟨r ++ (rs.drop (k + 1)).flatMap g, by rw [← hr]; simp⟩
section
variable (rs : List Int) (l : List Br) (rv bv : Value) (w0 : World) (hr : SlI w0 rv rs) (hv : SlBr w0 bv l) (hf : l.length ≤ 1000000) (hT : RightT ⟨rs, l⟩) (B lp Yb Tb Vb N : Nat) (J Jx : List (Int × Int) → World → Prop)
    (hJ : ∀ s W W', J s W → Grew W W' → J s W')
    (hY : ∀ m pre (x : Int × Int) W, J pre W → pre.length < N → YieldAt Fence.wide m Tryz.prog lp #[.int .i64 x.1, .int .i64 x.2] W fun e W' =>
      (e = .returned (.bool true) ∧ J (pre ++ [x]) W' ∧ KpB w0.heap.size B W W') ∨ (e = .returned (.bool false) ∧ Jx (pre ++ [x]) W'))
include hr hv hf hT hJ hY
theorem tVisit : ∀ (f : Nat) (b : Br) (d : Nat), b ∈ l → deep l l.length b = some d → l.length ≤ f + d → ∀ above pre W, Boxes B lp Yb Tb Vb rv bv W → OutIn B W → Grew w0 W → J pre W → pre.length + (belowL ⟨rs, l⟩ f b.id).length ≤ N →
    Calls Tryz.prog 120 #[.int .i64 b.id, .int .i64 above, .pointer (some ⟨Yb, 0, none⟩), .pointer (some ⟨Tb, 0, none⟩), .pointer (some ⟨Vb, 0, none⟩)] W (VisEnd J Jx w0.heap.size B (belowL ⟨rs, l⟩ f b.id) pre W) := by
  have hS := right_sound hT
  intro f
  induction f with
  | zero =>
    intro b d hb hd hfd above pre W hB hO hG hj hN
    have hno : childs ⟨rs, l⟩ b.id = [] := by
      rw [List.eq_nil_iff_forall_not_mem]
      intro k hk
      obtain ⟨c, hc, hcp, _⟩ := (childs_mem hS (.inr ⟨b, hb, rfl⟩)).1 hk
      have h1 := deep_child hS hb hc hcp hd
      have h2 := deep_le hS.asc hc h1
      have h3 : (Tr.brs ⟨rs, l⟩).length = l.length := rfl
      omega
    have he : belowL ⟨rs, l⟩ 0 b.id = b.id :: (childs ⟨rs, l⟩ b.id).flatMap (fun _ => []) := by rw [hno]; rfl
    rw [he] at hN ⊢
    exact tVisitBody rs l rv bv w0 hr hv hf hT B lp Yb Tb Vb N J Jx hJ hY b.id (.inr ⟨b, find_byid hS.asc hb⟩) _ (fun k hk => by rw [hno] at hk; cases hk) above pre W hB hO hG hj hN
  | succ f ih =>
    intro b d hb hd hfd above pre W hB hO hG hj hN
    refine tVisitBody rs l rv bv w0 hr hv hf hT B lp Yb Tb Vb N J Jx hJ hY b.id (.inr ⟨b, find_byid hS.asc hb⟩) (belowL ⟨rs, l⟩ f) (fun k hk => ?_) above pre W hB hO hG hj hN
    obtain ⟨c, hc, hcp, e⟩ := (childs_mem hS (.inr ⟨b, hb, rfl⟩)).1 hk
    rw [← e]
    exact ih c (d + 1) hc (deep_child hS hb hc hcp hd) (by omega)
set_option maxHeartbeats 4000000 in
set_option maxRecDepth 100000 in
theorem tWalk1 (Ib : Nat) (id : Int) (hid : id = 0 ∨ ∃ b, brFind l id = some b) (hN : (belowT ⟨rs, l⟩ id).length ≤ N) (W : World) (hTb : ∃ t, Prot B W Tb (.cells #[rv, bv] t (0, 0))) (hIb : W.cell? ⟨Ib, 0, none⟩ = some (.int .i64 id)) (hO : OutIn B W) (hG : Grew w0 W) (h0 : J [] W)
    (hVb : Vb = W.heap.size + 1) (hYb : Yb = W.heap.size) :
    Calls Tryz.prog 119 #[.func (.yield lp) #[] #[], .pointer (some ⟨Tb, 0, none⟩), .pointer (some ⟨Ib, 0, none⟩)] W fun e W' => (∃ v, e = .returned v) ∧ ((∃ xs : List (Int × Int), xs.map Prod.fst = belowT ⟨rs, l⟩ id ∧ J xs W') ∨ (∃ pre : List (Int × Int), pre.map Prod.fst <+: belowT ⟨rs, l⟩ id ∧ Jx pre W')) := by
  have hS := right_sound hT
  have hV := tVisit rs l rv bv w0 hr hv hf hT B lp Yb Tb Vb N J Jx hJ hY
  have hVr : ∀ k ∈ rs, ∀ above pre W, Boxes B lp Yb Tb Vb rv bv W → OutIn B W → Grew w0 W → J pre W → pre.length + (belowL ⟨rs, l⟩ l.length k).length ≤ N →
      Calls Tryz.prog 120 #[.int .i64 k, .int .i64 above, .pointer (some ⟨Yb, 0, none⟩), .pointer (some ⟨Tb, 0, none⟩), .pointer (some ⟨Vb, 0, none⟩)] W (VisEnd J Jx w0.heap.size B (belowL ⟨rs, l⟩ l.length k) pre W) := by
    intro k hk
    obtain ⟨c, hc, _, e⟩ := (hS.roots.2 k).1 hk
    obtain ⟨d, hd, _⟩ := deep_some hS hc
    rw [← e]
    exact hV l.length c d hc hd (by omega)
  have hVi : ∀ b, brFind l id = some b → ∀ above pre W, Boxes B lp Yb Tb Vb rv bv W → OutIn B W → Grew w0 W → J pre W → pre.length + (belowL ⟨rs, l⟩ l.length id).length ≤ N →
      Calls Tryz.prog 120 #[.int .i64 id, .int .i64 above, .pointer (some ⟨Yb, 0, none⟩), .pointer (some ⟨Tb, 0, none⟩), .pointer (some ⟨Vb, 0, none⟩)] W (VisEnd J Jx w0.heap.size B (belowL ⟨rs, l⟩ l.length id) pre W) := by
    intro b hb
    have hin := find_in hb
    obtain ⟨d, hd, _⟩ := deep_some hS hin.1
    rw [← hin.2]
    exact hV l.length b d hin.1 hd (by omega)
  subst hVb hYb
  obtain ⟨tb, hpt⟩ := hTb
  have t0 : W.cell? ⟨Tb, 0, none⟩ = some rv := hpt.cell 0 _ rfl
  obtain ⟨W2, hW2⟩ : ∃ W2, W2 = (W.alloc (.cells #[.func (.yield lp) #[] #[]] 120)).alloc (.cells #[.func (.func 120) #[] #[.pointer (some ⟨W.heap.size, 0, none⟩), .pointer (some ⟨Tb, 0, none⟩), .pointer (some ⟨W.heap.size + 1, 0, none⟩)]] 120) := ⟨_, rfl⟩
  have hgA : Grew W W2 := by rw [hW2]; exact ((Grew.refl W).alloc _).alloc _
  have hB2 : Boxes B lp W.heap.size Tb (W.heap.size + 1) rv bv W2 := by
    refine ⟨⟨_, Prot.fresh hO hgA (Nat.le_refl _) (o := .cells #[.func (.yield lp) #[] #[]] 120 (0, 0)) ?_ rfl⟩, ⟨tb, hpt.kp (KpO.grew hO.1 hgA)⟩, ⟨_, Prot.fresh hO hgA (Nat.le_succ _) (o := .cells #[.func (.func 120) #[] #[.pointer (some ⟨W.heap.size, 0, none⟩), .pointer (some ⟨Tb, 0, none⟩), .pointer (some ⟨W.heap.size + 1, 0, none⟩)]] 120 (0, 0)) ?_ rfl⟩⟩
    · rw [hW2]
      rw [Below.heap_alloc _ _ _ (by simp)]
      exact World.alloc_heap_new W _
    · rw [hW2]
      have := World.alloc_heap_new (W.alloc (.cells #[.func (.yield lp) #[] #[]] 120)) (.cells #[.func (.func 120) #[] #[.pointer (some ⟨W.heap.size, 0, none⟩), .pointer (some ⟨Tb, 0, none⟩), .pointer (some ⟨W.heap.size + 1, 0, none⟩)]] 120)
      rwa [World.size_alloc] at this
  have hO2 := hO.kp (KpO.grew hO.1 hgA)
  have hi2 : W2.cell? ⟨Ib, 0, none⟩ = some (.int .i64 id) := keep_cell hgA hIb
  have ht2 : W2.cell? ⟨Tb, 0, none⟩ = some rv := keep_cell hgA t0
  have hv2 : W2.cell? ⟨W.heap.size + 1, 0, none⟩ = some (.func (.func 120) #[] #[.pointer (some ⟨W.heap.size, 0, none⟩), .pointer (some ⟨Tb, 0, none⟩), .pointer (some ⟨W.heap.size + 1, 0, none⟩)]) := by
    obtain ⟨tv, hpv⟩ := hB2.v
    exact hpv.cell 0 _ rfl
  have HJ2 := Lib.hid (hJ _ _ _ h0 hgA)
  have HB2 := Lib.hid hB2
  have HO2 := Lib.hid hO2
  have HG2 := Lib.hid (hG.trans hgA)
  have HVr := Lib.hid hVr
  have HVi := Lib.hid hVi
  have HNN := Lib.hid hN
  have HR := Lib.hid hr
  have HJ := Lib.hid hJ
  have HW2 := Lib.hid hW2
  have HI2 := Lib.hid hi2
  have HT2 := Lib.hid ht2
  have HV2 := Lib.hid hv2
  clear hW2 hi2 ht2 hv2 t0 hIb
  clear hV hVr hVi hS hT hY hv hf hB2 hO2 hgA hpt hO hG h0 hN hr
  by_cases hz : id = 0
  · subst hz
    have hbt : belowT ⟨rs, l⟩ 0 = rs.flatMap (belowL ⟨rs, l⟩ l.length) := by
      unfold belowT
      rw [if_pos rfl]
    rw [hbt] at HNN ⊢
    generalize belowL ⟨rs, l⟩ l.length = g at HVr HVi HNN ⊢
    obtain ⟨A, c, rfl, hlc, hc, hcr⟩ := HR.out.open_
    unfold maxLen at hc
    have HCR := Lib.hid hcr
    clear hbt hcr hid HVi
    obtain ⟨cn, fn⟩ := cell_two W (.cells #[.func (.yield lp) #[] #[]] 120) .nilFunc 120
    have ho := func_one (.func 120) #[.pointer (some ⟨W.heap.size, 0, none⟩), .pointer (some ⟨Tb, 0, none⟩), .pointer (some ⟨W.heap.size + 1, 0, none⟩)]
    have hi2 := HI2.out
    have ht2 := HT2.out
    rw [HW2.out] at hi2 ht2
    go_enter Tryz.func119, Tryz.ntmps119
    go_wp2
    go_loopg [6, 16] rs.length (fun gg _ s16 wr => ∃ k : Nat, k ≤ rs.length ∧ rs.length - k ≤ gg ∧ s16 = .int .i64 k ∧ Aside (RootR B lp W.heap.size Tb (W.heap.size + 1) (.slice A rs.length c) bv w0 J rs g k wr))
    case atStart => exact ⟨0, by omega, by omega, rfl, (show Aside _ from by rw [← HW2.out]; exact ⟨HB2.out, HO2.out, HG2.out, [], by simp, HJ2.out⟩)⟩
    case round =>
      obtain ⟨k, hk, hgk, rfl, RW⟩ := hrel
      by_cases hlt : k < rs.length
      · have hltz : (k : Int) < (rs.length : Int) := by omega
        have h0z : (0 : Int) ≤ (k : Int) := by omega
        obtain ⟨b, off, rfl, hbk, hcell⟩ := HCR.out (by omega)
        obtain ⟨hBr, hOr, hGr, ys, hys, hjr⟩ := RW.out
        have c0 := hcell wr hGr k hlt
        obtain ⟨tv, hpv⟩ := hBr.v
        have cv : wr.cell? ⟨W.heap.size + 1, 0, none⟩ = some (.func (.func 120) #[] #[.pointer (some ⟨W.heap.size, 0, none⟩), .pointer (some ⟨Tb, 0, none⟩), .pointer (some ⟨W.heap.size + 1, 0, none⟩)]) := hpv.cell 0 _ rfl
        have hsp := flat_split g rs k hlt
        have hlen : ys.length = ((rs.take k).flatMap g).length := by rw [← hys, List.length_map]
        have hcall := HVr.out rs[k] (List.getElem_mem hlt) 0 ys wr hBr hOr hGr hjr (by
          have := HNN.out
          rw [hsp] at this
          simp only [List.length_append] at this
          omega)
        have HCALL := Lib.hid hcall
        have HST := Lib.hid (fun W5 (zs : List (Int × Int)) h1 h2 h3 => rootStep (J := J) (g := g) (rs := rs) hlt hBr hOr hGr hys (W5 := W5) (zs := zs) h1 h2 h3)
        have HSX := Lib.hid (fun (zs : List (Int × Int)) h1 => rootStop (g := g) (rs := rs) hlt hys (zs := zs) h1)
        clear hcell hBr hOr hGr hys hjr hpv hsp hlen hcall
        generalize rs[k] = y at c0 HCALL HST HSX
        go_wp2_with fail
        refine HCALL.out.mono ?_
        rintro e W5 (⟨rfl, ⟨zs, hzs, hj5⟩, hk5⟩ | ⟨rfl, zs, hzs, hj5⟩)
        · have hst := HST.out W5 zs hzs hj5 hk5
          dsimp only
          go_wp2
          go_roundg (rs.length - (k + 1))
          case measure => omega
          case rel => exact ⟨k + 1, by omega, by omega, by go_num, (show Aside _ from hst)⟩
        · have hsx := HSX.out zs hzs
          dsimp only
          go_wp2
          refine bodyPost_ret (results_none rfl _ _ _) rfl ?_
          exact ⟨⟨_, rfl⟩, .inr ⟨ys ++ zs, hsx, hj5⟩⟩
      · have hltz : ¬ (k : Int) < (rs.length : Int) := by omega
        obtain rfl : k = rs.length := by omega
        go_wp2
        go_end0
        obtain ⟨-, -, -, ys, hys, hjr⟩ := RW.out
        rw [List.take_length] at hys
        exact ⟨⟨_, rfl⟩, .inl ⟨ys, hys, hjr⟩⟩
  · obtain ⟨b, hb⟩ := hid.resolve_left hz
    have hbt : belowT ⟨rs, l⟩ id = belowL ⟨rs, l⟩ l.length id := by
      unfold belowT
      rw [if_neg hz]
    rw [hbt] at HNN ⊢
    have HC := Lib.hid (HVi.out b hb 0 [] W2 HB2.out HO2.out HG2.out HJ2.out (by have := HNN.out; simpa using this))
    generalize belowL ⟨rs, l⟩ l.length id = L at HC ⊢
    have hz' : (id == 0) = false := by simpa using hz
    have hi2 := HI2.out
    have hv2 := HV2.out
    rw [HW2.out] at hi2 hv2 HC
    obtain ⟨cn, fn⟩ := cell_two W (.cells #[.func (.yield lp) #[] #[]] 120) .nilFunc 120
    have ho := func_one (.func 120) #[.pointer (some ⟨W.heap.size, 0, none⟩), .pointer (some ⟨Tb, 0, none⟩), .pointer (some ⟨W.heap.size + 1, 0, none⟩)]
    clear hbt hb hid HVr HVi hz
    go_enter Tryz.func119, Tryz.ntmps119
    go_wp2_with fail
    refine HC.out.mono ?_
    rintro e W5 (⟨rfl, ⟨zs, hzs, hj5⟩, hk5⟩ | ⟨rfl, zs, hzs, hj5⟩)
    · dsimp only
      go_wp2
      refine bodyPost_ret (results_none rfl _ _ _) rfl ?_
      exact ⟨⟨_, rfl⟩, .inl ⟨zs, hzs, by simpa using hj5⟩⟩
    · dsimp only
      go_wp2
      refine bodyPost_ret (results_none rfl _ _ _) rfl ?_
      exact ⟨⟨_, rfl⟩, .inr ⟨zs, hzs, by simpa using hj5⟩⟩
end
end Go.Proofs.YtafncfomiolmgaaGreatDoor

/- tree.Below, walked: a unit and all that are below it, in order, in a row of the call's own. The conditions: the library's own variables hold what they must; the lists are short. -/
namespace Go.Proofs.YtafncfomiolmgaaGreatDoor
open Go.RowKit Go.Shelf

attribute [local go_sem] Oper.semAt_some

theorem tWalk (rv bv : Value) (id : Int) (w : World) : Calls Tryz.prog 76 #[.agg #[rv, bv], .int .i64 id] w fun e w' => e = .returned (.func (.func 119) #[] #[.pointer (some ⟨w.heap.size, 0, none⟩), .pointer (some ⟨w.heap.size + 1, 0, none⟩)]) ∧ (w.alloc (.cells #[rv, bv] 35)).alloc (.cells #[.int .i64 id] 3) = w' := by
  go_enter Tryz.func76, Tryz.ntmps76
  go_wp2
  go_ret
  exact ⟨rfl, rfl⟩
theorem kpO_append {W w1 : World} {n₀ B : Nat} {t e : TypeId} {size : Nat} {v v' : Value} {k m : Nat} {xs ys : List Value} {tmp : Obj} (hv : Boxed W B t v) (hte : t ≠ e) (hrow : W.ownsRow n₀ e size v k xs) (hown' : w1.ownsRow n₀ e size v' m ys) (hgrow : (W.alloc tmp).grownBy w1 v.ownBlock)
    (hloc : v'.ownBlock = v.ownBlock ∨ v'.ownBlock = some (W.alloc tmp).heap.size) : KpO B W (w1.setCell ⟨B, 0, none⟩ v') := by
  have hv1 : Boxed w1 B t v := (hv.alloc tmp).kept hgrow (hv.not_row hte hrow)
  have hsz : W.heap.size + 1 ≤ w1.heap.size := by have := hgrow.size; simpa using this
  refine ⟨by simp; omega, fun j o ho hc hne hr => ?_, fun v'' hv'' => ?_⟩
  · rw [Below.heap_setCell _ _ _ _ hne]
    have hj := (Array.getElem?_eq_some_iff.1 ho).1
    rw [hgrow.block j (by simp; omega) (fun e => hr v hv.cell e.symm), Below.heap_alloc _ _ _ hj]
    exact ho
  · have : v'' = v' := by
      have h2 := (hv1.set v').cell
      rw [h2] at hv''
      exact (Option.some.inj hv'').symm
    subst this
    rcases hloc with h | h
    · exact .inl ⟨v, hv.cell, h.symm⟩
    · refine .inr fun b hb => ?_
      have h3 := (hown'.lt b hb).2
      rw [h] at hb
      injection hb with hb
      simp at hb h3 ⊢
      omega
open Classical in
/-- What Below returns. -/
noncomputable def belowR (t : Tr) (id : Int) : List Int × Int := if RightT t then (if topR t.brs id = 0 then (belowT t id, 0) else ([], topR t.brs id)) else ([], 1)
/-- The call returns a list in a row of its own, and an error. -/
def RetMine (r : List Int × Int) (w : World) (e : Ending) (w' : World) : Prop := ∃ v, e = .returned (.tuple #[v, .int .i64 r.2]) ∧ w'.ownsRow w.heap.size 3 1 v r.1.length (r.1.flatMap oneI) ∧ Grew w w'
theorem RetMine.is_ {r : List Int × Int} {w : World} {e : Ending} {w' : World} (h : RetMine r w e w') : RetIs r w e w' := by
  obtain ⟨v, h1, h2, h3⟩ := h
  exact ⟨v, h1, Rd.of_own h2, h3⟩
/-- The iterator's contract. -/
theorem walkStops (rs : List Int) (l : List Br) (rv bv : Value) (w0 : World) (hr : SlI w0 rv rs) (hv : SlBr w0 bv l) (hf : l.length ≤ 1000000) (hT : RightT ⟨rs, l⟩) (id : Int) (hid : id = 0 ∨ ∃ b, brFind l id = some b) (B Tb Ib n : Nat) (w : World) (hO : OutIn B w) (hTb : ∃ t, Prot B w Tb (.cells #[rv, bv] t (0, 0))) (hIb : w.cell? ⟨Ib, 0, none⟩ = some (.int .i64 id)) (hG : Grew w0 w) :
    SeqStopsK Fence.wide n Tryz.prog 119 #[.pointer (some ⟨Tb, 0, none⟩), .pointer (some ⟨Ib, 0, none⟩)] (fun x : Int × Int => #[Value.int .i64 x.1, Value.int .i64 x.2]) (KpB w0.heap.size B) (fun ys => ys.map Prod.fst = belowT ⟨rs, l⟩ id) (fun pre => pre.map Prod.fst <+: belowT ⟨rs, l⟩ id) (belowT ⟨rs, l⟩ id).length w :=
  fun lp J Jx W hW hJa _ hY h0 => by
    have hgw : Grew w W := hW
    refine callsIn_wide.2 ?_
    exact tWalk1 rs l rv bv w0 hr hv hf hT B lp W.heap.size Tb (W.heap.size + 1) (belowT ⟨rs, l⟩ id).length J Jx (fun s A A' hj hg => hJa s A A' none hj (grown_grew hg none) (fun r e => by cases e))
      (fun m pre x W1 hj hlt => yieldFree rfl m (hY pre x W1 hj hlt)) Ib id hid (Nat.le_refl _) W (hTb.imp fun t p => p.kp (KpO.grew hO.1 hgw)) (keep_cell hgw hIb) (hO.kp (KpO.grew hO.1 hgw)) (hG.trans hgw) h0 rfl rfl
set_option maxHeartbeats 4000000 in
theorem tBelowNo (rs : List Int) (l : List Br) (id : Int) (rv bv : Value) (w : World) (hE : Env w) (hr : SlI w rv rs) (hv : SlBr w bv l) (hf : FewBr l) (hrl : rs.length ≤ 1000000) (hno : RightT ⟨rs, l⟩ → topR l id ≠ 0) :
    Calls Tryz.prog 34 #[.agg #[rv, bv], .int .i64 id] w (RetMine (belowR ⟨rs, l⟩ id) w) := by
  have hO := fun W (hW : Grew w W) n hn => tOrTop rs l id rv bv W (hE.mono hW) (hr.mono hW) (hv.mono hW) hf hrl n hn
  obtain ⟨n, hz, hn, hres⟩ : ∃ n : Int, n ≠ 0 ∧ ((¬ RightT ⟨rs, l⟩ → n = 1) ∧ (RightT ⟨rs, l⟩ → n = topR l id)) ∧ belowR ⟨rs, l⟩ id = ([], n) := by
    by_cases hT : RightT ⟨rs, l⟩
    · refine ⟨topR l id, hno hT, ⟨fun h => absurd hT h, fun _ => rfl⟩, ?_⟩
      unfold belowR
      rw [if_pos hT]
      show (if topR l id = 0 then (belowT ⟨rs, l⟩ id, (0 : Int)) else ([], topR l id)) = _
      rw [if_neg (hno hT)]
    · refine ⟨1, by decide, ⟨fun _ => rfl, fun h => absurd h hT⟩, ?_⟩
      unfold belowR
      rw [if_neg hT]
  have KO := Lib.hid (fun W hW => hO W hW n hn)
  rw [hres]
  have hz' : (n != 0) = true := by simpa using hz
  clear hE hr hv hf hrl hO hn hz hres hno
  go_enter Tryz.func34, Tryz.ntmps34
  go_wp2_with fail
  refine (KO.out _ ((Grew.refl w).alloc _)).mono ?_
  rintro e w1 ⟨rfl, g1⟩
  dsimp only
  go_wp2
  go_ret2
  exact ⟨_, rfl, World.ownsRow_nil _ _ _ _, ((Grew.refl w).alloc _).trans g1⟩
set_option maxRecDepth 100000 in
set_option maxHeartbeats 4000000 in
theorem tBelow (rs : List Int) (l : List Br) (id : Int) (rv bv : Value) (w : World) (hE : Env w) (hr : SlI w rv rs) (hv : SlBr w bv l) (hf : FewBr l) (hrl : rs.length ≤ 1000000) (hlen : RightT ⟨rs, l⟩ → (belowT ⟨rs, l⟩ id).length ≤ 1000000) :
    Calls Tryz.prog 34 #[.agg #[rv, bv], .int .i64 id] w (RetMine (belowR ⟨rs, l⟩ id) w) := by
  have hO := fun W (hW : Grew w W) n hn => tOrTop rs l id rv bv W (hE.mono hW) (hr.mono hW) (hv.mono hW) hf hrl n hn
  by_cases hT : RightT ⟨rs, l⟩
  case neg => exact tBelowNo rs l id rv bv w hE hr hv hf hrl (fun h => absurd h hT)
  have hn : (¬ RightT ⟨rs, l⟩ → topR l id = 1) ∧ (RightT ⟨rs, l⟩ → topR l id = topR l id) := ⟨fun h => absurd hT h, fun _ => rfl⟩
  have KO := Lib.hid (fun W hW => hO W hW _ hn)
  by_cases hz : topR l id = 0
  case neg => exact tBelowNo rs l id rv bv w hE hr hv hf hrl (fun _ => hz)
  have hres : belowR ⟨rs, l⟩ id = (belowT ⟨rs, l⟩ id, 0) := by
    unfold belowR
    rw [if_pos hT, if_pos hz]
  have hstop := fun B Tb Ib n w' => walkStops rs l rv bv w hr hv hf.1 hT id (top_found hz) B Tb Ib n w'
  have hlen' := hlen hT
  rw [hres]
  rw [hz] at KO
  generalize belowT ⟨rs, l⟩ id = L at hstop hlen' ⊢
  have HS := Lib.hid hstop
  have HLEN := Lib.hid hlen'
  obtain ⟨i0, hi, hz0, hz1, hz2⟩ := info_parts cinfoI
  clear hE hr hv hf hrl hO hn hz hres hT hlen hstop hlen'
  refine (callsIn_wide (n := 9)).1 ?_
  refine callsIn_of_wp_marks Tryz.func34 rfl trivial ?_ rfl
  simp only [Tryz.ntmps34, List.size_toArray, List.length_cons, List.length_nil, Nat.reduceAdd, Nat.reduceSub, Array.replicate_succ, Array.replicate_zero, List.push_toArray, List.append_toArray, List.nil_append, List.cons_append]
  gi_wp2_with fail
  refine ⟨trivial, (callsIn_wide.2 (KO.out _ ((Grew.refl w).alloc _))).mono ?_⟩
  rintro e w1 ⟨rfl, g1⟩
  have b0 := new_cell g1 0 _ rfl
  have b1 := new_cell g1 1 _ rfl
  have HG1 := Lib.hid (((Grew.refl w).alloc _).trans g1)
  have c0 := keep_cell ((Grew.refl w1).alloc (.cells #[.slice none 0 0] 32)) b0
  have c1 := keep_cell ((Grew.refl w1).alloc (.cells #[.slice none 0 0] 32)) b1
  clear g1 b0 b1
  dsimp only
  gi_wp2_with fail
  refine ⟨trivial, (callsIn_wide.2 (tWalk rv bv id _)).mono ?_⟩
  rintro e w2 ⟨rfl, hw2⟩
  dsimp only
  gi_wp2_with fail
  have hOB : OutIn w1.heap.size w2 := by
    rw [← hw2]
    refine ⟨by simp; omega, fun v hv b hb => ?_⟩
    rw [World.cell?_alloc_lt _ _ _ (by simp; omega), World.cell?_alloc_lt _ _ _ (by simp)] at hv
    rw [(Boxed.new w1 32 (.slice none 0 0)).cell] at hv
    obtain rfl := Option.some.inj hv
    simp [Value.ownBlock] at hb
  have hO1 : OutIn w1.heap.size (w1.alloc (.cells #[.slice none 0 0] 32)) := ⟨by simp, fun v hv b hb => by
    rw [(Boxed.new w1 32 (.slice none 0 0)).cell] at hv
    obtain rfl := Option.some.inj hv
    simp [Value.ownBlock] at hb⟩
  have hPT : Prot w1.heap.size w2 (w1.alloc (.cells #[.slice none 0 0] 32)).heap.size (.cells #[rv, bv] 35 (0, 0)) := by
    rw [← hw2]
    exact (Prot.new hO1 rfl).kp (KpO.grew (by simp; omega) ((Grew.refl _).alloc _))
  have hCI : w2.cell? ⟨(w1.alloc (.cells #[.slice none 0 0] 32)).heap.size + 1, 0, none⟩ = some (.int .i64 id) := by
    rw [← hw2]
    exact (cell_two _ _ _ _).1
  have hBX : Boxed w2 w1.heap.size 32 (.slice none 0 0) := by
    rw [← hw2]
    exact ((Boxed.new w1 _ _).alloc _).alloc _
  have hG2 : Grew w w2 := by
    rw [← hw2]
    exact ((HG1.out.alloc _).alloc _).alloc _
  have hs12 : w1.heap.size < w2.heap.size := hOB.1
  have hs1 : w.heap.size ≤ w1.heap.size := HG1.out.size
  have hst := HS.out w1.heap.size (w1.alloc (.cells #[.slice none 0 0] 32)).heap.size ((w1.alloc (.cells #[.slice none 0 0] 32)).heap.size + 1) 8 w2 hOB ⟨_, hPT⟩ hCI hG2
  generalize (w1.alloc (.cells #[.slice none 0 0] 32)).heap.size = Tb at hst ⊢
  have hlen := HLEN.out
  clear hw2 hPT hCI hO1 c0 c1
  refine wpIn_rangeFunc_ownG rfl (by omega) (gf := 119) (lb := #[.pointer (some ⟨Tb, 0, none⟩), .pointer (some ⟨Tb + 1, 0, none⟩)]) rfl trivial (enters_of Tryz.func119 (by kernel_rfl) rfl)
    hst KpB.trans (kpB_put hG2.size hs12) (Below.refl _ _) (fun _ => rfl)
    (fun pre W => (∃ v, Boxed W w1.heap.size 32 v ∧ W.ownsRow w.heap.size 3 1 v pre.length ((pre.map Prod.fst).flatMap oneI) ∧ (v = .slice none 0 0 ↔ pre = [])) ∧ Below w.heap.size w W)
    (fun _ _ _ => False)
    (OwnFrom.and (Own.from (holdsRow_own w.heap.size w1.heap.size 32 3 1 (fun pre : List (Int × Int) => pre.length) (fun pre => (pre.map Prod.fst).flatMap oneI) (fun pre v => v = .slice none 0 0 ↔ pre = [])) _) (ownFrom_below (Nat.le_refl _) hG2.size))
    (fun _ _ _ _ _ hs _ _ => hs)
    ⟨⟨_, hBX, World.ownsRow_nil _ _ _ _, by simp⟩, hG2⟩
    (fun x => { tmps := #[.agg #[rv, bv], .int .i64 id, .pointer (some ⟨w.heap.size, 0, none⟩), undef, .slice none 0 0, .int .i64 0, .int .i64 0, .pointer (some ⟨w1.heap.size, 0, none⟩), .int .i64 x.1, .agg #[rv, bv], .int .i64 id, .int .i64 0, .int .i64 0, .bool false, undef, .agg #[rv, bv], .int .i64 id, .func (.func 119) #[] #[.pointer (some ⟨Tb, 0, none⟩), .pointer (some ⟨Tb + 1, 0, none⟩)], .int .i64 x.1, .int .i64 x.2, undef, undef, undef, undef, undef], defers := [] }) ?assign ?body ?done ?stop
  case assign =>
    intro l x W K hK
    gi_wp2
    exact hK
  case body =>
    rintro l pre x W ⟨⟨v, hv, hrow, hnil⟩, hB⟩ hlt
    have hc := hv.cell
    gi_wp2_with (gi_at_builtin; refine wpListIn_append_own_at _ rfl _ _ 32 rfl w.heap.size 3 i0 (.int .i64 0) 1 8 Tryz.underlying32 hi hz0 hz1 hz2 rfl (by decide) _ _ _ rfl (hrow.alloc _) ⟨W.heap.size, 0, none⟩ 1 1 [Value.int .i64 x.1] rfl rfl (cell_one_new _ _ _) (by simp [Value.oneCell']) (by unfold maxLen; omega) (by omega) (by have := hB.size; simp; omega) ?_; intro v' w1' hown' hgrow _ hloc; have hkp := kpO_append hv (by decide) hrow hown' hgrow hloc; obtain ⟨g', cap', rfl⟩ := ownsRow_succ hown'; obtain ⟨hv1, hv2, hr2, hk2, hb2⟩ := hv.appended (by decide) hrow hB.size hs1 hown' hgrow; have hc1 := hv1.cell; have hf1 := hv1.frozen)
    exact ⟨hk2.from _, ⟨hb2, hkp⟩, ⟨_, hv2, by simpa [oneI] using hr2, by simp⟩, hB.trans hb2⟩
  case done =>
    rintro D ys W hD rfl ⟨⟨v, hv, hrow, hnil⟩, hB⟩ hK
    have hc := hv.cell
    gi_wp2
    refine ⟨by simp, .inl ⟨_, _, rfl, run_takeDeferred hK, ?_⟩⟩
    refine ⟨_, results_tmp2 rfl _ _ _, v, rfl, ?_, hB.trans (belowK_b (w := w) (Nat.le_refl _) W D _ _ (by omega) hK rfl rfl)⟩
    have := ownsRow_putObj hrow (.deferred none) hK rfl
    simpa using this
  case stop =>
    rintro D c pre W _ _ h _
    exact h.elim
end Go.Proofs.YtafncfomiolmgaaGreatDoor

/- The reference's Children, under and Below of a tree, walked. The conditions: the lists are short. -/
namespace Go.Proofs.YtafncfomiolmgaaGreatDoor
open Go.RowKit

def RetList (r : List Int) (w : World) (e : Ending) (w' : World) : Prop := ∃ v, e = .returned v ∧ SlI w' v r ∧ Grew w w' ∧ Fresh w.heap.size v
end Go.Proofs.YtafncfomiolmgaaGreatDoor

/- A right tree is built from nothing by creating its units, plainly. No condition. -/
namespace Go.Proofs.YtafncfomiolmgaaGreatDoor
open Go.RowKit

def parOf (t : Tr) (x : Int) : Int := match brFind t.brs x with
  | none => -1
  | some b => b.parent
/-- Those of a list whose parent is p, in their order. -/
def filt (t : Tr) (S : List Int) (p : Int) : List Int := S.filter fun x => parOf t x == p
theorem flatMap_one {g : Int → List Int} : ∀ {L : List Int}, L.Nodup → ∀ {k : Int}, k ∈ L → (∀ j ∈ L, j ≠ k → g j = []) → L.flatMap g = g k
  | [], _, k, hk, _ => absurd hk List.not_mem_nil
  | x :: r, hn, k, hk, h => by
    have hn' := List.nodup_cons.1 hn
    rw [List.flatMap_cons]
    rcases List.mem_cons.1 hk with e | hk'
    · subst e
      have : r.flatMap g = [] := by
        rw [List.flatMap_eq_nil_iff]
        exact fun j hj => h j (List.mem_cons_of_mem _ hj) (fun e => hn'.1 (e ▸ hj))
      rw [this, List.append_nil]
    · rw [h x (List.mem_cons_self ..) (fun e => hn'.1 (e ▸ hk')), List.nil_append]
      exact flatMap_one hn'.2 hk' fun j hj hne => h j (List.mem_cons_of_mem _ hj) hne
theorem flatMap_self {g : Int → List Int} : ∀ {L : List Int}, (∀ j ∈ L, g j = [j]) → L.flatMap g = L
  | [], _ => rfl
  | x :: r, h => by
    rw [List.flatMap_cons, h x (List.mem_cons_self ..), flatMap_self fun j hj => h j (List.mem_cons_of_mem _ hj)]
    rfl
theorem parOf_in {t : Tr} (h : idsAsc t.brs) {b : Br} (hb : b ∈ t.brs) : parOf t b.id = b.parent := by
  unfold parOf
  rw [find_byid h hb]
theorem filt_flat (t : Tr) (L : List Int) (g : Int → List Int) (p : Int) : filt t (L.flatMap g) p = L.flatMap fun k => filt t (g k) p := by
  unfold filt
  rw [List.filter_flatMap]
theorem filt_app (t : Tr) (S T : List Int) (p : Int) : filt t (S ++ T) p = filt t S p ++ filt t T p := by
  unfold filt
  rw [List.filter_append]
/-- Two units above a third one: one is above the other. -/
theorem under_two {l : List Br} (h : idsAsc l) {a b x : Int} (ha : UnderT l a x) (hb : UnderT l b x) : UnderT l a b ∨ UnderT l b a := by
  induction ha with
  | self => exact .inr hb
  | @step c hc hp hu ih =>
    by_cases e : c.id = b
    · exact .inl (by rw [← e]; exact UnderT.step hc hp hu)
    · exact ih (under_parent h hc e hb).2
/-- A unit is below one child alone. -/
theorem under_one {t : Tr} (h : SoundM t) {n x : Int} {b c : Br} (hb : b ∈ t.brs) (hc : c ∈ t.brs) (hbp : b.parent = n) (hcp : c.parent = n) (h1 : UnderT t.brs b.id x) (h2 : UnderT t.brs c.id x) : b.id = c.id := by
  obtain ⟨r, hr⟩ := h.rank
  have key : ∀ {b c : Br}, b ∈ t.brs → c ∈ t.brs → b.parent = n → c.parent = n → UnderT t.brs b.id c.id → b.id = c.id := by
    intro b c hb hc hbp hcp hu
    refine Classical.byContradiction fun hne => ?_
    obtain ⟨h3, h4⟩ := under_parent h.asc hc (fun e => hne e.symm) hu
    have h5 := under_rank hr h4
    have h6 := hr b hb (by rw [hbp, ← hcp]; exact h3)
    rw [hcp] at h5
    rw [hbp] at h6
    omega
  rcases under_two h.asc h1 h2 with hu | hu
  · exact key hb hc hbp hcp hu
  · exact (key hc hb hcp hbp hu).symm
theorem not_under_zero {t : Tr} (h : SoundM t) {n : Int} (hn : n ≠ 0) : ¬ UnderT t.brs n 0 := by
  intro hu
  have key : ∀ x, UnderT t.brs n x → x ≠ 0 := by
    intro x hx
    cases hx with
    | self => exact hn
    | step hb _ _ => exact unit_pos (h.units _ hb)
  exact key 0 hu rfl
theorem kid_in {t : Tr} (h : SoundM t) {n k : Int} (hn : n = 0 ∨ ∃ b ∈ t.brs, b.id = n) (hk : k ∈ childs t n) : ∃ c ∈ t.brs, c.parent = n ∧ c.id = k := (childs_mem h hn).1 hk
theorem childs_nodup {t : Tr} (h : SoundM t) {n : Int} (hn : n = 0 ∨ ∃ b ∈ t.brs, b.id = n) : (childs t n).Nodup := (((sound_parts t).1 h).2 n hn).1
/-- Of what is below a unit, those with a given parent. -/
theorem filt_below {t : Tr} (h : SoundM t) : ∀ (f : Nat) (b : Br) (d : Nat), b ∈ t.brs → deep t.brs t.brs.length b = some d → t.brs.length ≤ f + d → ∀ p, (p = 0 ∨ ∃ c ∈ t.brs, c.id = p) →
    (UnderT t.brs b.id p → filt t (belowL t f b.id) p = childs t p) ∧ (¬ UnderT t.brs b.id p → filt t (belowL t f b.id) p = if b.parent = p then [b.id] else []) := by
  intro f
  induction f with
  | zero =>
    intro b d hb hd hf p hp
    have hno : childs t b.id = [] := by
      rw [List.eq_nil_iff_forall_not_mem]
      intro k hk
      obtain ⟨c, hc, hcp, _⟩ := kid_in h (.inr ⟨b, hb, rfl⟩) hk
      have h1 := deep_child h hb hc hcp hd
      have h2 := deep_le h.asc hc h1
      omega
    have hpb := parOf_in h.asc hb
    have hone : filt t (belowL t 0 b.id) p = if b.parent = p then [b.id] else [] := by
      unfold belowL filt
      rw [List.filter_cons, hpb]
      by_cases e : b.parent = p
      · simp [e]
      · simp [e]
    refine ⟨fun hu => ?_, fun _ => hone⟩
    rcases under_first h ⟨b, hb, rfl⟩ hu with e | ⟨k, hk, _⟩
    · rw [hone, e, hno, if_neg]
      intro e2
      obtain ⟨r, hr⟩ := h.rank
      have h3 := hr b hb (by rw [e2]; exact unit_pos (h.units b hb))
      rw [e2] at h3
      omega
    · rw [hno] at hk
      cases hk
  | succ f ih =>
    intro b d hb hd hf p hp
    have hnb : b.id = 0 ∨ ∃ c ∈ t.brs, c.id = b.id := .inr ⟨b, hb, rfl⟩
    have hpb := parOf_in h.asc hb
    have hkid : ∀ k ∈ childs t b.id, ∃ c ∈ t.brs, c.parent = b.id ∧ c.id = k ∧ (UnderT t.brs k p → filt t (belowL t f k) p = childs t p) ∧ (¬ UnderT t.brs k p → filt t (belowL t f k) p = if b.id = p then [k] else []) := by
      intro k hk
      obtain ⟨c, hc, hcp, e⟩ := kid_in h hnb hk
      have := ih c (d + 1) hc (deep_child h hb hc hcp hd) (by omega) p hp
      rw [e, hcp] at this
      exact ⟨c, hc, hcp, e, this⟩
    have hsplit : filt t (belowL t (f + 1) b.id) p = (if b.parent = p then [b.id] else []) ++ (childs t b.id).flatMap fun k => filt t (belowL t f k) p := by
      have : belowL t (f + 1) b.id = [b.id] ++ (childs t b.id).flatMap (belowL t f) := rfl
      rw [this, filt_app, filt_flat]
      congr 1
      unfold filt
      rw [List.filter_cons, hpb]
      by_cases e : b.parent = p
      · simp [e]
      · simp [e]
    obtain ⟨r, hr⟩ := h.rank
    constructor
    · intro hu
      have hne : b.parent ≠ p := by
        intro e
        have h1 := under_rank hr hu
        rcases hp with hp | ⟨c, hc, e2⟩
        · rw [hp] at hu
          exact not_under_zero h (unit_pos (h.units b hb)) hu
        · have h2 := hr b hb (by rw [e, ← e2]; exact unit_pos (h.units c hc))
          rw [e] at h2
          omega
      rw [hsplit, if_neg hne, List.nil_append]
      by_cases e : b.id = p
      · refine (flatMap_self fun k hk => ?_).trans (by rw [e])
        obtain ⟨c, hc, hcp, ek, _, h2⟩ := hkid k hk
        rw [h2, if_pos e]
        intro hu2
        have h3 := under_rank hr hu2
        have h4 := hr c hc (by rw [hcp]; exact unit_pos (h.units b hb))
        rw [hcp, ek, e] at h4
        omega
      · rcases under_first h ⟨b, hb, rfl⟩ hu with e2 | ⟨k, hk, hku⟩
        · exact absurd e2.symm e
        · obtain ⟨c, hc, hcp, ek, h1, _⟩ := hkid k hk
          rw [flatMap_one (childs_nodup h hnb) hk, h1 hku]
          intro j hj hjk
          obtain ⟨c2, hc2, hcp2, ek2, _, h2⟩ := hkid j hj
          rw [h2, if_neg e]
          intro hju
          refine hjk ?_
          rw [← ek, ← ek2]
          exact under_one h hc2 hc hcp2 hcp (by rw [ek2]; exact hju) (by rw [ek]; exact hku)
    · intro hu
      have e : b.id ≠ p := fun e => hu (by rw [← e]; exact UnderT.self)
      rw [hsplit]
      have : ((childs t b.id).flatMap fun k => filt t (belowL t f k) p) = [] := by
        rw [List.flatMap_eq_nil_iff]
        intro k hk
        obtain ⟨c, hc, hcp, ek, _, h2⟩ := hkid k hk
        rw [h2, if_neg e]
        intro hku
        refine hu (under_trans ?_ hku)
        rw [← ek]
        exact UnderT.step hc (by rw [hcp]; exact unit_pos (h.units b hb)) (by rw [hcp]; exact UnderT.self)
      rw [this, List.append_nil]
theorem root_of {t : Tr} (h : SoundM t) {x : Int} (hx : ∃ b ∈ t.brs, b.id = x) : ∃ r ∈ t.roots, UnderT t.brs r x := by
  obtain ⟨r, hr⟩ := h.rank
  have key : ∀ n (b : Br), b ∈ t.brs → r b.id ≤ n → ∃ k ∈ t.roots, UnderT t.brs k b.id := by
    intro n
    induction n with
    | zero =>
      intro b hb hn
      by_cases hp : b.parent = 0
      · exact ⟨b.id, (h.roots.2 _).2 ⟨b, hb, hp, rfl⟩, UnderT.self⟩
      · have := hr b hb hp
        omega
    | succ n ih =>
      intro b hb hn
      by_cases hp : b.parent = 0
      · exact ⟨b.id, (h.roots.2 _).2 ⟨b, hb, hp, rfl⟩, UnderT.self⟩
      · have h1 := hr b hb hp
        rcases parent_there h hb with e | ⟨c, hc, e⟩
        · exact absurd e hp
        · obtain ⟨k, hk, hku⟩ := ih c hc (by rw [e]; omega)
          exact ⟨k, hk, UnderT.step hb hp (by rw [← e]; exact hku)⟩
  obtain ⟨b, hb, e⟩ := hx
  obtain ⟨k, hk, hku⟩ := key (r b.id) b hb (Nat.le_refl _)
  exact ⟨k, hk, by rw [← e]; exact hku⟩
theorem childs_zero (t : Tr) : childs t 0 = t.roots := by
  unfold childs
  rw [if_pos rfl]
/-- Of all units, those with a given parent. -/
theorem filt_all {t : Tr} (h : SoundM t) (p : Int) (hp : p = 0 ∨ ∃ b ∈ t.brs, b.id = p) : filt t (belowT t 0) p = childs t p := by
  have hroot : ∀ k ∈ t.roots, ∃ c ∈ t.brs, c.parent = 0 ∧ c.id = k ∧ (UnderT t.brs k p → filt t (belowL t t.brs.length k) p = childs t p) ∧ (¬ UnderT t.brs k p → filt t (belowL t t.brs.length k) p = if 0 = p then [k] else []) := by
    intro k hk
    obtain ⟨c, hc, hcp, e⟩ := (h.roots.2 k).1 hk
    obtain ⟨d, hd, _⟩ := deep_some h hc
    have := filt_below h t.brs.length c d hc hd (by omega) p hp
    rw [e, hcp] at this
    exact ⟨c, hc, hcp, e, this⟩
  unfold belowT
  rw [if_pos rfl, filt_flat]
  rcases hp with hp | hp
  · subst hp
    rw [childs_zero]
    refine flatMap_self fun k hk => ?_
    obtain ⟨c, hc, hcp, ek, _, h2⟩ := hroot k hk
    rw [h2, if_pos rfl]
    rw [← ek]
    exact not_under_zero h (unit_pos (h.units c hc))
  · obtain ⟨k, hk, hku⟩ := root_of h hp
    obtain ⟨c, hc, hcp, ek, h1, _⟩ := hroot k hk
    rw [flatMap_one h.roots.1 hk, h1 hku]
    intro j hj hjk
    obtain ⟨c2, hc2, hcp2, ek2, _, h2⟩ := hroot j hj
    obtain ⟨b, hb, e⟩ := hp
    rw [h2, if_neg]
    · rw [← e]
      exact fun e2 => unit_pos (h.units b hb) e2.symm
    · intro hju
      refine hjk ?_
      rw [← ek, ← ek2]
      exact under_one h hc2 hc hcp2 hcp (by rw [ek2]; exact hju) (by rw [ek]; exact hku)
theorem all_mem_iff {t : Tr} (h : SoundM t) (x : Int) : x ∈ belowT t 0 ↔ ∃ b ∈ t.brs, b.id = x := by
  constructor
  · intro hx
    unfold belowT at hx
    rw [if_pos rfl] at hx
    obtain ⟨k, hk, hx⟩ := List.mem_flatMap.1 hx
    obtain ⟨c, hc, _, e⟩ := (h.roots.2 k).1 hk
    obtain ⟨d, hd, _⟩ := deep_some h hc
    rw [← e] at hx
    exact under_there ⟨c, hc, rfl⟩ ((mem_belowL h _ c d hc hd (by omega) x).1 hx)
  · rintro ⟨b, hb, e⟩
    have h1 := filt_all h b.parent (parent_there h hb)
    have h2 : x ∈ childs t b.parent := (childs_mem h (parent_there h hb)).2 ⟨b, hb, rfl, e⟩
    rw [← h1] at h2
    exact (List.mem_filter.1 h2).1
theorem all_nodup {t : Tr} (h : SoundM t) : (belowT t 0).Nodup := by
  rw [List.nodup_iff_count]
  intro x
  by_cases hx : x ∈ belowT t 0
  · obtain ⟨b, hb, e⟩ := (all_mem_iff h x).1 hx
    have h1 := filt_all h b.parent (parent_there h hb)
    have h2 := childs_nodup h (parent_there h hb)
    rw [← h1] at h2
    have h3 := List.nodup_iff_count.1 h2 x
    unfold filt at h3
    rw [List.count_filter (by rw [← e, parOf_in h.asc hb]; simp)] at h3
    exact h3
  · rw [List.count_eq_zero.2 hx]
    omega
/-- In a list each unit comes behind its parent, but for those with the parent q. -/
def ParFirst (t : Tr) (q : Int) (L : List Int) : Prop := ∀ pre x post, L = pre ++ x :: post → parOf t x = q ∨ parOf t x ∈ pre
theorem ParFirst.nil (t : Tr) (q : Int) : ParFirst t q [] := fun pre x post e => by simp at e
theorem ParFirst.app {t : Tr} {q : Int} {L M : List Int} (h1 : ParFirst t q L) (h2 : ParFirst t q M) : ParFirst t q (L ++ M) := by
  intro pre x post e
  rcases List.append_eq_append_iff.1 e with ⟨bs, e1, e2⟩ | ⟨bs, e1, e2⟩
  · rcases h2 bs x post e2 with h | h
    · exact .inl h
    · exact .inr (by rw [e1]; exact List.mem_append_right _ h)
  · cases bs with
    | nil =>
      simp only [List.nil_append] at e2
      rcases h2 [] x post e2.symm with h | h
      · exact .inl h
      · cases h
    | cons y bs =>
      simp only [List.cons_append, List.cons.injEq] at e2
      obtain ⟨rfl, e2⟩ := e2
      exact h1 pre x bs e1
theorem ParFirst.flat {t : Tr} {q : Int} {g : Int → List Int} : ∀ {L : List Int}, (∀ k ∈ L, ParFirst t q (g k)) → ParFirst t q (L.flatMap g)
  | [], _ => ParFirst.nil t q
  | x :: r, h => by
    rw [List.flatMap_cons]
    exact (h x (List.mem_cons_self ..)).app (ParFirst.flat fun k hk => h k (List.mem_cons_of_mem _ hk))
theorem parFirst_below {t : Tr} (h : SoundM t) : ∀ (f : Nat) (b : Br), b ∈ t.brs → ParFirst t b.parent (belowL t f b.id) := by
  intro f
  induction f with
  | zero =>
    intro b hb pre x post e
    unfold belowL at e
    cases pre with
    | nil =>
      simp only [List.nil_append, List.cons.injEq] at e
      rw [← e.1]
      exact .inl (parOf_in h.asc hb)
    | cons y pre => simp at e
  | succ f ih =>
    intro b hb pre x post e
    unfold belowL at e
    cases pre with
    | nil =>
      simp only [List.nil_append, List.cons.injEq] at e
      rw [← e.1]
      exact .inl (parOf_in h.asc hb)
    | cons y pre =>
      simp only [List.cons_append, List.cons.injEq] at e
      obtain ⟨e1, e2⟩ := e
      have hf : ParFirst t b.id ((childs t b.id).flatMap (belowL t f)) := by
        refine ParFirst.flat fun k hk => ?_
        obtain ⟨c, hc, hcp, ek⟩ := kid_in h (.inr ⟨b, hb, rfl⟩) hk
        have := ih c hc
        rw [hcp, ek] at this
        exact this
      rcases hf pre x post e2 with h1 | h1
      · exact .inr (by rw [h1, e1]; exact List.mem_cons_self ..)
      · exact .inr (List.mem_cons_of_mem _ h1)
theorem parFirst_all {t : Tr} (h : SoundM t) : ParFirst t 0 (belowT t 0) := by
  unfold belowT
  rw [if_pos rfl]
  refine ParFirst.flat fun k hk => ?_
  obtain ⟨c, hc, hcp, e⟩ := (h.roots.2 k).1 hk
  have := parFirst_below h t.brs.length c hc
  rw [hcp, e] at this
  exact this
end Go.Proofs.YtafncfomiolmgaaGreatDoor

/- What is below a unit is no more than the units. No condition. -/
namespace Go.Proofs.YtafncfomiolmgaaGreatDoor
open Go.RowKit

theorem nodup_of_filt {t : Tr} {L : List Int} (h : ∀ x ∈ L, (filt t L (parOf t x)).Nodup) : L.Nodup := by
  rw [List.nodup_iff_count]
  intro x
  by_cases hx : x ∈ L
  · have h3 := List.nodup_iff_count.1 (h x hx) x
    unfold filt at h3
    rw [List.count_filter (by simp)] at h3
    exact h3
  · rw [List.count_eq_zero.2 hx]
    omega
theorem below_nodup {t : Tr} (h : SoundM t) (f : Nat) (b : Br) (d : Nat) (hb : b ∈ t.brs) (hd : deep t.brs t.brs.length b = some d) (hf : t.brs.length ≤ f + d) : (belowL t f b.id).Nodup := by
  refine nodup_of_filt (t := t) fun x hx => ?_
  obtain ⟨c, hc, e⟩ := under_there ⟨b, hb, rfl⟩ ((mem_belowL h f b d hb hd hf x).1 hx)
  rw [← e, parOf_in h.asc hc]
  have hp := parent_there h hc
  obtain ⟨h1, h2⟩ := filt_below h f b d hb hd hf c.parent hp
  by_cases hu : UnderT t.brs b.id c.parent
  · rw [h1 hu]
    exact childs_nodup h hp
  · rw [h2 hu]
    split <;> simp
theorem belowL_len {t : Tr} (h : SoundM t) (f : Nat) (b : Br) (d : Nat) (hb : b ∈ t.brs) (hd : deep t.brs t.brs.length b = some d) (hf : t.brs.length ≤ f + d) : (belowL t f b.id).length ≤ t.brs.length := by
  have h1 := List.Nodup.length_le_of_subset (l₂ := t.brs.map Br.id) (below_nodup h f b d hb hd hf) (fun x hx => by
    obtain ⟨c, hc, e⟩ := under_there ⟨b, hb, rfl⟩ ((mem_belowL h f b d hb hd hf x).1 hx)
    exact List.mem_map.2 ⟨c, hc, e⟩)
  rwa [List.length_map] at h1
theorem below_len {t : Tr} (h : SoundM t) (id : Int) (hid : id = 0 ∨ ∃ b, brFind t.brs id = some b) : (belowT t id).length ≤ t.brs.length := by
  by_cases h0 : id = 0
  · subst h0
    have h1 := List.Nodup.length_le_of_subset (l₂ := t.brs.map Br.id) (all_nodup h) (fun x hx => by
      obtain ⟨c, hc, e⟩ := (all_mem_iff h x).1 hx
      exact List.mem_map.2 ⟨c, hc, e⟩)
    rwa [List.length_map] at h1
  · obtain ⟨b, hb⟩ := hid.resolve_left h0
    have hin := find_in hb
    obtain ⟨d, hd, _⟩ := deep_some h hin.1
    unfold belowT
    rw [if_neg h0, ← hin.2]
    exact belowL_len h _ b d hin.1 hd (by omega)
end Go.Proofs.YtafncfomiolmgaaGreatDoor

/- The reference's Below of a tree, walked; the program's Below without a condition on what it returns. The conditions: the library's own variables hold what they must; the lists are short; the marks no longer than a string can be. -/
namespace Go.Proofs.YtafncfomiolmgaaGreatDoor
open Go.RowKit

theorem tBelowX (rs : List Int) (l : List Br) (id : Int) (rv bv : Value) (w : World) (hE : Env w) (hr : SlI w rv rs) (hv : SlBr w bv l) (hf : FewBr l) (hrl : rs.length ≤ 1000000) :
    Calls Tryz.prog 34 #[.agg #[rv, bv], .int .i64 id] w (RetMine (belowR ⟨rs, l⟩ id) w) := by
  by_cases hT : RightT ⟨rs, l⟩
  · by_cases hz : topR l id = 0
    · exact tBelow rs l id rv bv w hE hr hv hf hrl (fun _ => by
        have h1 := below_len (right_sound hT) id (top_found hz)
        have h2 : (Tr.brs ⟨rs, l⟩).length = l.length := rfl
        have := hf.1
        omega)
    · exact tBelowNo rs l id rv bv w hE hr hv hf hrl (fun _ => hz)
  · exact tBelowNo rs l id rv bv w hE hr hv hf hrl (fun h => absurd h hT)
theorem RetList.is {r : List Int} {w w' : World} {v : Value} (h : SlI w' v r) (hg : Grew w w') : RetIs (r, 0) w (.returned (.tuple #[v, .int .i64 0])) w' := ⟨v, rfl, h, hg⟩
end Go.Proofs.YtafncfomiolmgaaGreatDoor

/- The steps of the editor's move: the list of all below; the store of the parent; the unit is put; the depth. The conditions: the tree is right; the library's own variables hold what they must. -/
namespace Go.Proofs.YtafncfomiolmgaaGreatDoor
open Go.RowKit

theorem belowR_unit {t : Tr} (h : RightT t) {n : Int} {u : Br} (hb : brFind t.brs n = some u) : belowR t n = (belowT t n, 0) := by
  have e : topR t.brs n = 0 := by
    unfold topR knownF
    split
    · rfl
    · rw [if_pos (by simp [hb])]
  unfold belowR
  rw [if_pos h, if_pos e]
theorem take_asc {t : Tr} {u : Br} (h : SoundM t) : idsAsc (takeM t u).brs := by
  unfold takeM
  rw [setK_brs]
  split
  · exact h.asc
  · exact List.Pairwise.map _ (fun a b hab => by unfold kidG; (repeat' split) <;> exact hab) h.asc
section
variable {w0 : World} {E : Nat} {bv : Value} {t : Tr} {o : Opn} {u : Br} {W : World}
theorem moveBelow (h : EdB w0.heap.size E bv t W) (hS : SoundM t) (hR : RightT t) (hEnv : Env W) (hb : brFind t.brs o.unit = some u) {rv : Value} (h0 : W.cell? ⟨E, 0, none⟩ = some rv) :
    Calls Tryz.prog 34 #[.agg #[rv, bv], .int .i64 o.unit] W fun e w' => ∃ v, e = .returned (.tuple #[v, .int .i64 0]) ∧ SlI w' v (belowT t o.unit) ∧ Grew W w' := by
  obtain ⟨rv', hr, hbr, c0, -, -, -⟩ := h.reads
  obtain rfl : rv' = rv := Option.some.inj (c0.symm.trans h0)
  have hT := tok_of hS
  refine (tBelowX t.roots t.brs o.unit rv' bv W hEnv hr hbr hT.few hT.roots).mono fun e w' hm => ?_
  obtain ⟨v, e1, e2, e3⟩ := RetMine.is_ hm
  have e4 : belowR ⟨t.roots, t.brs⟩ o.unit = (belowT t o.unit, 0) := belowR_unit (t := t) hR hb
  rw [e4] at e1 e2
  exact ⟨v, e1, e2, e3⟩
theorem moveStore (h : EdB w0.heap.size E bv (takeM t u) W) (hG : Grew w0 W) (hS : SoundM t) {i : Nat} {B cap : Nat} (hi : i < (takeM t u).brs.length) (hbv : bv = .slice (some ⟨B, 0, none⟩) (takeM t u).brs.length cap) (hn : (takeM t u).brs[i].id = u.id) (p : Int) :
    EdB w0.heap.size E bv (nameM t u p) (W.setCell ⟨B, i * 6 + 1, none⟩ (.int .i64 p)) ∧ Grew w0 (W.setCell ⟨B, i * 6 + 1, none⟩ (.int .i64 p)) ∧ W.frozen? ⟨B, i * 6 + 1, none⟩ = false ∧ ∃ v, W.cell? ⟨B, i * 6 + 1, none⟩ = some v := by
  obtain ⟨rv, cs, hE⟩ := h
  obtain ⟨-, c1, -, -, -, -, hz, hlo, -⟩ := hE.at_ hi hbv
  have hf := hE.field (take_asc hS) hi (j := 1) (by omega) hbv (fun b => { b with parent := p }) (.int .i64 p) (fun _ => rfl) rfl
  rw [hn] at hf
  exact ⟨hf, hG.setCell (p := ⟨B, i * 6 + 1, none⟩) hlo _, hz _, _, c1⟩
theorem movePut (hS : SoundM t) (hc : CanMove t o u) (hp : u.parent = 0 ∨ ∃ b ∈ t.brs, b.id = u.parent) (h : EdB w0.heap.size E bv (nameM t u o.parent) W) (hG : Grew w0 W) :
    Calls Tryz.prog 92 #[.pointer (some ⟨E, 0, none⟩), .int .i64 o.unit, .int .i64 o.parent, .int .i64 o.before] W fun e w' => e = .returned (.tuple #[]) ∧ EdB w0.heap.size E bv (moveT t o u) w' ∧ Grew w0 w' := by
  obtain ⟨p1, p2, p3⟩ := move_put hS hc hp
  have hT := tok_of hS
  have := edPut h hG (move_asc hS) (by rw [move_len]; exact hT.len) (p := o.parent) ((stands_there hc.stands).imp_right fun hx => (move_ids o.parent).2 hx) o.unit o.before p1 p2 p3
  rw [move_eq hc] at this
  exact this
open Classical in
theorem moveLimit (hS : SoundM t) (hc : CanMove t o u) (h : EdB w0.heap.size E bv (moveT t o u) W) (hEnv : Env W) :
    Calls Tryz.prog 93 #[.pointer (some ⟨E, 0, none⟩)] W fun e w' => e = .returned (.int .i64 (if RightT (moveT t o u) then 0 else 15)) ∧ Grew W w' := edLimit h (tok_of (move_sound hS hc)) hEnv
end
end Go.Proofs.YtafncfomiolmgaaGreatDoor

/- The editor's take at a later world: what lies in newer blocks stays. The conditions: the units ascend; the lists are short. -/
namespace Go.Proofs.YtafncfomiolmgaaGreatDoor
open Go.RowKit

section
variable {w0 : World} {E : Nat} {bv : Value} {t : Tr} {w : World}
set_option maxHeartbeats 4000000 in
theorem edTakeAt (h : EdB w0.heap.size E bv t w) (hG : Grew w0 w) (WW : World) (hWW : Grew w WW) (hasc : idsAsc t.brs) (hlen : t.brs.length ≤ 1000000) {i : Nat} (hi : i < t.brs.length) (hp : t.brs[i].parent = 0 ∨ ∃ b ∈ t.brs, b.id = t.brs[i].parent) :
    Calls Tryz.prog 94 #[.pointer (some ⟨E, 0, none⟩), .int .i64 t.brs[i].id] WW fun e w' => e = .returned (.tuple #[]) ∧ EdB w0.heap.size E bv (setK t t.brs[i].parent (withoutF t.brs[i].id (childs t t.brs[i].parent))) w' ∧ Grew w0 w' ∧ ∀ p x, WW.cell? p = some x → w.heap.size ≤ p.block → w'.cell? p = some x := by
  have HWW := Lib.hid hWW
  obtain ⟨rv, cs, hE⟩ := h
  obtain ⟨B, cap, hbv, -, -, -⟩ := own_form hE.brs (by omega)
  obtain ⟨-, c1, -⟩ := hE.at_ hi hbv
  have hEw : EdB w0.heap.size E bv t w := ⟨rv, cs, hE⟩
  have KB := Lib.hid (fun W (hW : Grew w W) => edBranch (hEw.grew hW) hasc hlen hi hbv)
  obtain ⟨ab, ao, kv, hkat, hK⟩ := edKidsAt hEw hasc hlen hp
  have KK := Lib.hid hK
  have HKAT := Lib.hid hkat
  have HG := Lib.hid hG
  have C1 := Lib.hid c1
  unfold withoutF
  generalize hR : setK t t.brs[i].parent ((childs t t.brs[i].parent).filter fun x => !(x == t.brs[i].id)) = R
  have HR := Lib.hid hR
  clear hR
  generalize t.brs[i].id = n at KB HR ⊢
  generalize t.brs[i].parent = p at KK C1 HKAT HR ⊢
  clear hE hEw hG hWW hasc hlen hp c1 hbv hkat hK
  go_enter Tryz.func94, Tryz.ntmps94
  go_wp2_with fail
  refine (KB.out _ (HWW.out.trans ((Grew.refl WW).alloc _))).mono ?_
  rintro e w1 ⟨rfl, g1⟩
  have b0 := new_cell (cs := [.int .i64 n]) g1 0 _ rfl
  have HG1 := Lib.hid (HWW.out.trans (((Grew.refl WW).alloc _).trans g1))
  have HW1 := Lib.hid (((Grew.refl WW).alloc _).trans g1)
  have c1 := keep_cell HG1.out C1.out
  clear g1
  dsimp only
  go_wp2_with fail
  refine (KK.out _ HG1.out).mono ?_
  rintro e w2 ⟨rfl, g2⟩
  have hk2 := HKAT.out.grew (HG1.out.trans g2)
  have b2 := keep_cell g2 b0
  have d1 := hk2.cell
  have HKAT2 := Lib.hid hk2
  have HG2 := Lib.hid (HG.out.trans (HG1.out.trans g2))
  have HW2 := Lib.hid (HW1.out.trans g2)
  have hbox : some WW.heap.size ≠ kv.ownBlock := fun e => by
    have := (HKAT.out.own.lt _ e.symm).2
    have := HWW.out.size
    omega
  have HLK := Lib.hid (fun b (e : kv.ownBlock = some b) => (HKAT.out.own.lt b e).2)
  have HLA := Lib.hid HKAT.out.lt
  have hdel := deleteFuncG (childs t p) (fun x => x == n) 138 #[.pointer (some ⟨WW.heap.size, 0, none⟩)] enters_edTake1 w0.heap.size kv w2 HG2.out.size hk2.own (fun W x hW _ => edTake1 n WW.heap.size x W (hW.cell b2 hbox))
  have HDEL := Lib.hid hdel
  obtain ⟨Ak, ck, rfl⟩ := own_slice hk2.own
  clear g2 hk2 hdel b0 c1 hbox
  generalize childs t p = L at HDEL HR d1 HKAT2 HLK
  dsimp only
  go_wp2_with fail
  refine HDEL.out.mono ?_
  rintro e w3 ⟨v3, rfl, own3, hat3, -, hgr3⟩
  obtain ⟨A3, d3, rfl⟩ := own_slice own3
  have HFIN := Lib.hid (takeDone (R := R) HKAT2.out HR.out HG2.out own3 hgr3 hat3)
  have c3 := hgr3.cell d1 (fun e => HKAT2.out.off e.symm)
  have f3 := (World.frozen?_of_block (a := ⟨ab, ao, none⟩) (hgr3.block ab HKAT2.out.lt (fun e => HKAT2.out.off e.symm))).trans HKAT2.out.frz
  have HKP := Lib.hid (fun (p : Addr) x (hx : WW.cell? p = some x) (hp : w.heap.size ≤ p.block) => (show (w3.setCell ⟨ab, ao, none⟩ (.slice A3 (L.filter fun x => !(x == n)).length d3)).cell? p = some x from by
    rw [World.cell?_setCell_far _ _ _ _ (fun e => by have := HLA.out; dsimp only at e this; omega)]
    exact hgr3.cell (keep_cell HW2.out hx) (fun e => by have := HLK.out _ e.symm; omega)))
  clear own3 hgr3 hat3
  dsimp only
  go_wp2
  go_end0
  exact ⟨rfl, HFIN.out.1, HFIN.out.2, HKP.out⟩
end
end Go.Proofs.YtafncfomiolmgaaGreatDoor
