/- Lemmas on what the functions of the program and of the library compute: Bw2, Bw3, InsI, Bw4, Up0, I5. The conditions stand at each. -/
import Derived.Test.YtjaknioojpgkiaaGreatDoorQ15
import Derived.Laws.EntriesVeiled
import Derived.Maps.OwnIn
import Derived.RangeFuncLeaves
import Derived.RangeFuncBox
import Derived.RangeFuncWrites
import Derived.OwnWalkIn
import Derived.TacticsInMore
import Derived.LoopNIn
import Derived.LoopIn
import Derived.Maps.AppendAt
import Derived.Test.YtjaknioojpgkiaaGreatDoorQ11
import Derived.Test.YtjaknioojpgkiaaGreatDoorQ14
/- tree.walk's recursive closure: it hands on a unit and all that are below it. The conditions: the tree is right; the rounds write one box and the row behind it alone. -/
namespace Go.Proofs.YtjaknioojpgkiaaGreatDoor
open Go.RowKit Go.Shelf

attribute [local go_sem] Oper.semAt_some

/-- The boxes that the closure reads. -/
structure Boxes (B lp Yb Tb Vb : Nat) (rv bv : Value) (W : World) : Prop where
  y : ∃ t, Prot B W Yb (.cells #[.func (.yield lp) #[] #[]] t (0, 0))
  t : ∃ t, Prot B W Tb (.cells #[rv, bv] t (0, 0))
  v : ∃ t, Prot B W Vb (.cells #[.func (.func 144) #[] #[.pointer (some ⟨Yb, 0, none⟩), .pointer (some ⟨Tb, 0, none⟩), .pointer (some ⟨Vb, 0, none⟩)]] t (0, 0))
theorem Boxes.kp {B lp Yb Tb Vb : Nat} {rv bv : Value} {W W' : World} (h : Boxes B lp Yb Tb Vb rv bv W) (j : KpO B W W') : Boxes B lp Yb Tb Vb rv bv W' :=
  ⟨h.y.imp fun _ p => p.kp j, h.t.imp fun _ p => p.kp j, h.v.imp fun _ p => p.kp j⟩
/-- How the closure ends: all of L has come, or a part of it. -/
def VisEnd (J Jx : List (Int × Int) → World → Prop) (n₀ B : Nat) (L : List Int) (pre : List (Int × Int)) (W : World) (e : Ending) (W' : World) : Prop :=
  (e = .returned (.bool true) ∧ (∃ ys : List (Int × Int), ys.map Prod.fst = L ∧ J (pre ++ ys) W') ∧ KpB n₀ B W W') ∨ (e = .returned (.bool false) ∧ ∃ ys : List (Int × Int), ys.map Prod.fst <+: L ∧ Jx (pre ++ ys) W')
theorem tVisit1 (kid above : Int) (Vb Ab : Nat) (p1 p2 p3 : Value) (W : World) (c1 : W.cell? ⟨Vb, 0, none⟩ = some (.func (.func 144) #[] #[p1, p2, p3])) (c2 : W.cell? ⟨Ab, 0, none⟩ = some (.int .i64 above)) (R1 R2 : World → Prop)
    (h : ∀ a : Int, Calls Tryz.prog 144 (#[.int .i64 kid, .int .i64 a] ++ #[p1, p2, p3]) W fun e W' => (e = .returned (.bool true) ∧ R1 W') ∨ (e = .returned (.bool false) ∧ R2 W')) :
    Calls Tryz.prog 146 (#[.int .i64 kid] ++ #[.pointer (some ⟨Vb, 0, none⟩), .pointer (some ⟨Ab, 0, none⟩)]) W fun e W' => (e = .returned (.bool false) ∧ R1 W') ∨ (e = .returned (.bool true) ∧ R2 W') := by
  have H := Lib.hid h
  clear h
  go_enter Tryz.func146, Tryz.ntmps146
  go_wp2_with fail
  refine (H.out _).mono ?_
  rintro e w' (⟨rfl, hb'⟩ | ⟨rfl, hb'⟩)
  · dsimp only
    go_wp2
    go_ret
    exact .inl ⟨rfl, hb'⟩
  · dsimp only
    go_wp2
    go_ret
    exact .inr ⟨rfl, hb'⟩
theorem enters_tVisit1 : ∀ args w, (callFunc 146 args).run Tryz.prog w = .ok (.enter 146 args) w := enters_of Tryz.func146 (by kernel_rfl) rfl
theorem flat_next (g : Int → List Int) (ks : List Int) (i : Nat) (hi : i < ks.length) : (ks.take (i + 1)).flatMap g = (ks.take i).flatMap g ++ g ks[i] := by
  rw [List.take_succ_eq_append_getElem hi, List.flatMap_append]
  simp
theorem flat_split (g : Int → List Int) (ks : List Int) (i : Nat) (hi : i < ks.length) : ks.flatMap g = (ks.take i).flatMap g ++ (g ks[i] ++ (ks.drop (i + 1)).flatMap g) := by
  have h : ks.flatMap g = (ks.take (i + 1) ++ ks.drop (i + 1)).flatMap g := by rw [List.take_append_drop]
  rw [h, List.flatMap_append, flat_next g ks i hi, List.append_assoc]
/-- What holds behind i children. -/
def VisR (B lp Yb Tb Vb : Nat) (rv bv : Value) (w0 W : World) (above : Int) (pre : List (Int × Int)) (J : List (Int × Int) → World → Prop) (ks : List Int) (g : Int → List Int) (i : Nat) (W' : World) : Prop :=
  Boxes B lp Yb Tb Vb rv bv W' ∧ OutIn B W' ∧ Prot B W' W.heap.size (.cells #[.int .i64 above] 3 (0, 0)) ∧ Grew w0 W' ∧ KpB w0.heap.size B W W' ∧ ∃ ys : List (Int × Int), ys.map Prod.fst = (ks.take i).flatMap g ∧ J (pre ++ ys) W'
theorem VisR.grew {B lp Yb Tb Vb : Nat} {rv bv : Value} {w0 W W' : World} {above : Int} {pre : List (Int × Int)} {J : List (Int × Int) → World → Prop} {ks : List Int} {g : Int → List Int} {i : Nat} (h : VisR B lp Yb Tb Vb rv bv w0 W above pre J ks g i W') : Grew w0 W' := h.2.2.2.1
def VisS (pre : List (Int × Int)) (Jx : List (Int × Int) → World → Prop) (ks : List Int) (g : Int → List Int) (W' : World) : Prop := ∃ ys : List (Int × Int), ys.map Prod.fst <+: ks.flatMap g ∧ Jx (pre ++ ys) W'
theorem visStep {B lp Yb Tb Vb N : Nat} {rv bv : Value} {w0 W W4 : World} {above : Int} {pre : List (Int × Int)} {J Jx : List (Int × Int) → World → Prop} {ks : List Int} {g : Int → List Int} {i : Nat} (hi : i < ks.length) (hN : pre.length + (ks.flatMap g).length ≤ N)
    (hK : ∀ above pre W, Boxes B lp Yb Tb Vb rv bv W → OutIn B W → Grew w0 W → J pre W → pre.length + (g ks[i]).length ≤ N →
      Calls Tryz.prog 144 #[.int .i64 ks[i], .int .i64 above, .pointer (some ⟨Yb, 0, none⟩), .pointer (some ⟨Tb, 0, none⟩), .pointer (some ⟨Vb, 0, none⟩)] W (VisEnd J Jx w0.heap.size B (g ks[i]) pre W))
    (h : VisR B lp Yb Tb Vb rv bv w0 W above pre J ks g i W4) :
    Calls Tryz.prog 146 (#[.int .i64 ks[i]] ++ #[.pointer (some ⟨Vb, 0, none⟩), .pointer (some ⟨W.heap.size, 0, none⟩)]) W4 fun e W' => (e = .returned (.bool false) ∧ VisR B lp Yb Tb Vb rv bv w0 W above pre J ks g (i + 1) W') ∨ (e = .returned (.bool true) ∧ VisS pre Jx ks g W') := by
  obtain ⟨hB, hO, hPA, hG, hK4, ys, hys, hj⟩ := h
  obtain ⟨tv, hpv⟩ := hB.v
  have hsp := flat_split g ks i hi
  have hlen : ys.length = ((ks.take i).flatMap g).length := by rw [← hys, List.length_map]
  refine tVisit1 ks[i] above Vb W.heap.size _ _ _ W4 (hpv.cell 0 _ rfl) (hPA.cell 0 _ rfl) _ _ fun a => ?_
  refine (hK a (pre ++ ys) W4 hB hO hG hj ?_).mono ?_
  · rw [hsp] at hN
    simp only [List.length_append] at hN ⊢
    omega
  · rintro e W' (⟨rfl, ⟨zs, hzs, hj'⟩, hk'⟩ | ⟨rfl, zs, hzs, hj'⟩)
    · refine .inl ⟨rfl, hB.kp hk'.2, hO.kp hk'.2, hPA.kp hk'.2, Below.trans hG hk'.1, hK4.trans hk', ys ++ zs, ?_, by rw [← List.append_assoc]; exact hj'⟩
      rw [flat_next g ks i hi, List.map_append, hys, hzs]
    · refine .inr ⟨rfl, ys ++ zs, ?_, by rw [← List.append_assoc]; exact hj'⟩
      rw [hsp, List.map_append, hys]
      obtain ⟨r, hr⟩ := hzs
      exact ⟨r ++ (ks.drop (i + 1)).flatMap g, by rw [← hr]; simp⟩
set_option maxHeartbeats 4000000 in
set_option maxRecDepth 100000 in
/-- One activation: the unit itself, and then what its children hand on. -/
theorem tVisitBody (rs : List Int) (l : List Br) (rv bv : Value) (w0 : World) (hr : SlI w0 rv rs) (hv : SlBr w0 bv l) (hf : l.length ≤ 1000000) (hT : RightT ⟨rs, l⟩) (B lp Yb Tb Vb N : Nat) (J Jx : List (Int × Int) → World → Prop)
    (hJ : ∀ s W W', J s W → Grew W W' → J s W')
    (hY : ∀ m pre (x : Int × Int) W, J pre W → pre.length < N → YieldAt Fence.wide m Tryz.prog lp #[.int .i64 x.1, .int .i64 x.2] W fun e W' =>
      (e = .returned (.bool true) ∧ J (pre ++ [x]) W' ∧ KpB w0.heap.size B W W') ∨ (e = .returned (.bool false) ∧ Jx (pre ++ [x]) W'))
    (x : Int) (hid : x = 0 ∨ ∃ b, brFind l x = some b) (g : Int → List Int)
    (hK : ∀ k ∈ childs ⟨rs, l⟩ x, ∀ above pre W, Boxes B lp Yb Tb Vb rv bv W → OutIn B W → Grew w0 W → J pre W → pre.length + (g k).length ≤ N →
      Calls Tryz.prog 144 #[.int .i64 k, .int .i64 above, .pointer (some ⟨Yb, 0, none⟩), .pointer (some ⟨Tb, 0, none⟩), .pointer (some ⟨Vb, 0, none⟩)] W (VisEnd J Jx w0.heap.size B (g k) pre W))
    (above : Int) (pre : List (Int × Int)) (W : World) (hB : Boxes B lp Yb Tb Vb rv bv W) (hO : OutIn B W) (hG : Grew w0 W) (hj : J pre W) (hN : pre.length + (x :: (childs ⟨rs, l⟩ x).flatMap g).length ≤ N) :
    Calls Tryz.prog 144 #[.int .i64 x, .int .i64 above, .pointer (some ⟨Yb, 0, none⟩), .pointer (some ⟨Tb, 0, none⟩), .pointer (some ⟨Vb, 0, none⟩)] W (VisEnd J Jx w0.heap.size B (x :: (childs ⟨rs, l⟩ x).flatMap g) pre W) := by
  simp only [List.length_cons] at hN
  obtain ⟨W1, hW1⟩ : ∃ W1, W1 = W.alloc (.cells #[.int .i64 above] 3) := ⟨_, rfl⟩
  have hn0 : w0.heap.size ≤ W.heap.size := hG.size
  have hgA : Grew W W1 := by rw [hW1]; exact (Grew.refl W).alloc _
  have hkA : KpB w0.heap.size B W W1 := KpB.grew hO.1 hn0 hgA
  have hPA : Prot B W1 W.heap.size (.cells #[.int .i64 above] 3 (0, 0)) := by rw [hW1]; exact Prot.new hO rfl
  have hB1 := hB.kp hkA.2
  have hO1 := hO.kp hkA.2
  obtain ⟨fn, tmps, assign, body, hy, hR⟩ := hY 8 pre (x, above) W1 (hJ _ _ _ hj hgA) (by omega)
  obtain ⟨ty, hpy⟩ := hB1.y
  have cy : W1.cell? ⟨Yb, 0, none⟩ = some (.func (.yield lp) #[] #[]) := hpy.cell 0 _ rfl
  have ca : W1.cell? ⟨W.heap.size, 0, none⟩ = some (.int .i64 above) := hPA.cell 0 _ rfl
  have HPA := Lib.hid hPA
  have HB1 := Lib.hid hB1
  have HO1 := Lib.hid hO1
  have HKA := Lib.hid hkA
  have HG1 := Lib.hid (hG.trans hgA)
  have HN := Lib.hid hN
  have HK := Lib.hid hK
  have HJ := Lib.hid hJ
  have HKI := Lib.hid (fun W (hW : Grew w0 W) => tKids0 rs l x rv bv w0 W hr hv hW hf hT hid)
  generalize childs ⟨rs, l⟩ x = ks at HN HK HKI ⊢
  clear hr hv hT hJ hY hK hB hO hG hj hN hgA hkA hPA hB1 hO1 hpy hid hf hn0
  subst hW1
  refine (callsIn_wide (n := 9)).1 ?_
  refine callsIn_of_wp Tryz.func144 rfl trivial ?_ rfl
  simp only [Tryz.ntmps144, List.size_toArray, List.length_cons, List.length_nil, Nat.reduceAdd, Nat.reduceSub, Array.replicate_succ, Array.replicate_zero, List.push_toArray, List.append_toArray, List.nil_append, List.cons_append]
  gi_wp2_with fail
  refine hR.mono ?_
  rintro e W2 (⟨rfl, hJ2, hk2⟩ | ⟨rfl, hJx2⟩)
  · have HK2 := Lib.hid (HKA.out.trans hk2)
    have HB2 := Lib.hid (HB1.out.kp hk2.2)
    have HO2 := Lib.hid (HO1.out.kp hk2.2)
    have HPA2 := Lib.hid (HPA.out.kp hk2.2)
    have HG2 := Lib.hid (show Grew w0 W2 from Below.trans HG1.out hk2.1)
    obtain ⟨tt, hpt⟩ := HB2.out.t
    have t0 : W2.cell? ⟨Tb, 0, none⟩ = some rv := hpt.cell 0 _ rfl
    have t1 : W2.cell? ⟨Tb, 1, none⟩ = some bv := hpt.cell 1 _ rfl
    have HJ2 := Lib.hid hJ2
    clear hk2 hpt hJ2
    dsimp only
    gi_wp2_with fail
    refine ⟨trivial, (callsIn_wide.2 (HKI.out _ HG2.out)).mono ?_⟩
    rintro e W3 ⟨v3, rfl, s3, g3⟩
    have hk3 : KpB w0.heap.size B W2 W3 := KpB.grew HO2.out.1 HG2.out.size g3
    have hc := containsEff ks 146 #[.pointer (some ⟨Vb, 0, none⟩), .pointer (some ⟨W.heap.size, 0, none⟩)] enters_tVisit1 v3 w0 W3 s3 (VisR B lp Yb Tb Vb rv bv w0 W above (pre ++ [(x, above)]) J ks g) (VisS (pre ++ [(x, above)]) Jx ks g)
      ⟨HB2.out.kp hk3.2, HO2.out.kp hk3.2, HPA2.out.kp hk3.2, HG2.out.trans g3, HK2.out.trans hk3, [], by simp, by simpa using HJ.out _ _ _ HJ2.out g3⟩ (fun _ _ h => h.grew) (fun i hi W4 hR4 => visStep hi (by have := HN.out; simp only [List.length_append, List.length_cons, List.length_nil]; omega) (HK.out ks[i] (List.getElem_mem hi)) hR4)
    have HC := Lib.hid hc
    clear hk3 hc t0 t1 g3
    dsimp only
    gi_wp2_with fail
    refine ⟨trivial, (callsIn_wide.2 HC.out).mono ?_⟩
    rintro e W4 (⟨rfl, h4⟩ | ⟨rfl, h4⟩)
    · dsimp only
      gi_wp2
      go_ret
      obtain ⟨-, -, -, -, hk4, ys, hys, hj4⟩ := h4
      rw [List.take_length] at hys
      exact .inl ⟨rfl, ⟨(x, above) :: ys, by simp [hys], by simpa [List.append_assoc] using hj4⟩, hk4⟩
    · dsimp only
      gi_wp2
      go_ret
      obtain ⟨ys, hys, hj4⟩ := h4
      exact .inr ⟨rfl, (x, above) :: ys, by simpa using hys, by simpa [List.append_assoc] using hj4⟩
  · dsimp only
    gi_wp2
    go_ret
    exact .inr ⟨rfl, [(x, above)], by simp, hJx2⟩
end Go.Proofs.YtjaknioojpgkiaaGreatDoor

/- tree.walk and tree.Below, walked. The conditions: the library's own variables hold what they must; the lists are short. -/
namespace Go.Proofs.YtjaknioojpgkiaaGreatDoor
open Go.RowKit Go.Shelf

attribute [local go_sem] Oper.semAt_some

theorem Prot.fresh {B k : Nat} {W W' : World} {o : Obj} (h : OutIn B W) (hg : Grew W W') (hk : W.heap.size ≤ k) (ho : W'.heap[k]? = some o) (hc : o.isCells = true) : Prot B W' k o := by
  refine ⟨ho, hc, by have := h.1; omega, fun v hv hb => ?_⟩
  rw [hg.cell h.1] at hv
  have := h.2 v hv _ hb
  omega
theorem cell_two (W : World) (o : Obj) (v : Value) (t : TypeId) : ((W.alloc o).alloc (.cells #[v] t)).cell? ⟨W.heap.size + 1, 0, none⟩ = some v ∧ ((W.alloc o).alloc (.cells #[v] t)).frozen? ⟨W.heap.size + 1, 0, none⟩ = false := by
  have h := World.alloc_heap_new (W.alloc o) (.cells #[v] t)
  rw [World.size_alloc] at h
  exact ⟨cell_of_one h, free_of_one h⟩
theorem func_one (f : Fn) (b : Array Value) : (Value.func f #[] b).oneCell' = true := by simp [Value.oneCell']
/-- What holds behind k roots. -/
def RootR (B lp Yb Tb Vb : Nat) (rv bv : Value) (w0 : World) (J : List (Int × Int) → World → Prop) (rs : List Int) (g : Int → List Int) (k : Nat) (W : World) : Prop :=
  Boxes B lp Yb Tb Vb rv bv W ∧ OutIn B W ∧ Grew w0 W ∧ ∃ ys : List (Int × Int), ys.map Prod.fst = (rs.take k).flatMap g ∧ J ys W
theorem rootStep {B lp Yb Tb Vb : Nat} {rv bv : Value} {w0 W W5 : World} {J : List (Int × Int) → World → Prop} {rs : List Int} {g : Int → List Int} {k : Nat} {ys zs : List (Int × Int)} (hk : k < rs.length) (hB : Boxes B lp Yb Tb Vb rv bv W) (hO : OutIn B W) (hG : Grew w0 W) (hys : ys.map Prod.fst = (rs.take k).flatMap g)
    (h1 : zs.map Prod.fst = g rs[k]) (h2 : J (ys ++ zs) W5) (h3 : KpB w0.heap.size B W W5) : RootR B lp Yb Tb Vb rv bv w0 J rs g (k + 1) W5 :=
  ⟨hB.kp h3.2, hO.kp h3.2, Below.trans hG h3.1, ys ++ zs, by rw [flat_next g rs k hk, List.map_append, hys, h1], h2⟩
theorem rootStop {rs : List Int} {g : Int → List Int} {k : Nat} {ys zs : List (Int × Int)} (hk : k < rs.length) (hys : ys.map Prod.fst = (rs.take k).flatMap g) (h1 : zs.map Prod.fst <+: g rs[k]) : (ys ++ zs).map Prod.fst <+: rs.flatMap g := by
  rw [flat_split g rs k hk, List.map_append, hys]
  obtain ⟨r, hr⟩ := h1
  exact ⟨r ++ (rs.drop (k + 1)).flatMap g, by rw [← hr]; simp⟩
section
variable (rs : List Int) (l : List Br) (rv bv : Value) (w0 : World) (hr : SlI w0 rv rs) (hv : SlBr w0 bv l) (hf : l.length ≤ 1000000) (hT : RightT ⟨rs, l⟩) (B lp Yb Tb Vb N : Nat) (J Jx : List (Int × Int) → World → Prop)
    (hJ : ∀ s W W', J s W → Grew W W' → J s W')
    (hY : ∀ m pre (x : Int × Int) W, J pre W → pre.length < N → YieldAt Fence.wide m Tryz.prog lp #[.int .i64 x.1, .int .i64 x.2] W fun e W' =>
      (e = .returned (.bool true) ∧ J (pre ++ [x]) W' ∧ KpB w0.heap.size B W W') ∨ (e = .returned (.bool false) ∧ Jx (pre ++ [x]) W'))
include hr hv hf hT hJ hY
theorem tVisit : ∀ (f : Nat) (b : Br) (d : Nat), b ∈ l → deep l l.length b = some d → l.length ≤ f + d → ∀ above pre W, Boxes B lp Yb Tb Vb rv bv W → OutIn B W → Grew w0 W → J pre W → pre.length + (belowL ⟨rs, l⟩ f b.id).length ≤ N →
    Calls Tryz.prog 144 #[.int .i64 b.id, .int .i64 above, .pointer (some ⟨Yb, 0, none⟩), .pointer (some ⟨Tb, 0, none⟩), .pointer (some ⟨Vb, 0, none⟩)] W (VisEnd J Jx w0.heap.size B (belowL ⟨rs, l⟩ f b.id) pre W) := by
  have hS := right_sound hT
  intro f
  induction f with
  | zero =>
    intro b d hb hd hfd above pre W hB hO hG hj hN
    have hno : childs ⟨rs, l⟩ b.id = [] := by
      rw [List.eq_nil_iff_forall_not_mem]
      intro k hk
      obtain ⟨c, hc, hcp, _⟩ := (childs_mem hS (.inr ⟨b, hb, rfl⟩)).1 hk
      have h1 := deep_child hS hb hc hcp hd
      have h2 := deep_le hS.asc hc h1
      have h3 : (Tr.brs ⟨rs, l⟩).length = l.length := rfl
      omega
    have he : belowL ⟨rs, l⟩ 0 b.id = b.id :: (childs ⟨rs, l⟩ b.id).flatMap (fun _ => []) := by rw [hno]; rfl
    rw [he] at hN ⊢
    exact tVisitBody rs l rv bv w0 hr hv hf hT B lp Yb Tb Vb N J Jx hJ hY b.id (.inr ⟨b, find_byid hS.asc hb⟩) _ (fun k hk => by rw [hno] at hk; cases hk) above pre W hB hO hG hj hN
  | succ f ih =>
    intro b d hb hd hfd above pre W hB hO hG hj hN
    refine tVisitBody rs l rv bv w0 hr hv hf hT B lp Yb Tb Vb N J Jx hJ hY b.id (.inr ⟨b, find_byid hS.asc hb⟩) (belowL ⟨rs, l⟩ f) (fun k hk => ?_) above pre W hB hO hG hj hN
    obtain ⟨c, hc, hcp, e⟩ := (childs_mem hS (.inr ⟨b, hb, rfl⟩)).1 hk
    rw [← e]
    exact ih c (d + 1) hc (deep_child hS hb hc hcp hd) (by omega)
set_option maxHeartbeats 4000000 in
set_option maxRecDepth 100000 in
theorem tWalk1 (Ib : Nat) (id : Int) (hid : id = 0 ∨ ∃ b, brFind l id = some b) (hN : (belowT ⟨rs, l⟩ id).length ≤ N) (W : World) (hTb : ∃ t, Prot B W Tb (.cells #[rv, bv] t (0, 0))) (hIb : W.cell? ⟨Ib, 0, none⟩ = some (.int .i64 id)) (hO : OutIn B W) (hG : Grew w0 W) (h0 : J [] W)
    (hVb : Vb = W.heap.size + 1) (hYb : Yb = W.heap.size) :
    Calls Tryz.prog 143 #[.func (.yield lp) #[] #[], .pointer (some ⟨Tb, 0, none⟩), .pointer (some ⟨Ib, 0, none⟩)] W fun e W' => (∃ v, e = .returned v) ∧ ((∃ xs : List (Int × Int), xs.map Prod.fst = belowT ⟨rs, l⟩ id ∧ J xs W') ∨ (∃ pre : List (Int × Int), pre.map Prod.fst <+: belowT ⟨rs, l⟩ id ∧ Jx pre W')) := by
  have hS := right_sound hT
  have hV := tVisit rs l rv bv w0 hr hv hf hT B lp Yb Tb Vb N J Jx hJ hY
  have hVr : ∀ k ∈ rs, ∀ above pre W, Boxes B lp Yb Tb Vb rv bv W → OutIn B W → Grew w0 W → J pre W → pre.length + (belowL ⟨rs, l⟩ l.length k).length ≤ N →
      Calls Tryz.prog 144 #[.int .i64 k, .int .i64 above, .pointer (some ⟨Yb, 0, none⟩), .pointer (some ⟨Tb, 0, none⟩), .pointer (some ⟨Vb, 0, none⟩)] W (VisEnd J Jx w0.heap.size B (belowL ⟨rs, l⟩ l.length k) pre W) := by
    intro k hk
    obtain ⟨c, hc, _, e⟩ := (hS.roots.2 k).1 hk
    obtain ⟨d, hd, _⟩ := deep_some hS hc
    rw [← e]
    exact hV l.length c d hc hd (by omega)
  have hVi : ∀ b, brFind l id = some b → ∀ above pre W, Boxes B lp Yb Tb Vb rv bv W → OutIn B W → Grew w0 W → J pre W → pre.length + (belowL ⟨rs, l⟩ l.length id).length ≤ N →
      Calls Tryz.prog 144 #[.int .i64 id, .int .i64 above, .pointer (some ⟨Yb, 0, none⟩), .pointer (some ⟨Tb, 0, none⟩), .pointer (some ⟨Vb, 0, none⟩)] W (VisEnd J Jx w0.heap.size B (belowL ⟨rs, l⟩ l.length id) pre W) := by
    intro b hb
    have hin := find_in hb
    obtain ⟨d, hd, _⟩ := deep_some hS hin.1
    rw [← hin.2]
    exact hV l.length b d hin.1 hd (by omega)
  subst hVb hYb
  obtain ⟨tb, hpt⟩ := hTb
  have t0 : W.cell? ⟨Tb, 0, none⟩ = some rv := hpt.cell 0 _ rfl
  obtain ⟨W2, hW2⟩ : ∃ W2, W2 = (W.alloc (.cells #[.func (.yield lp) #[] #[]] 94)).alloc (.cells #[.func (.func 144) #[] #[.pointer (some ⟨W.heap.size, 0, none⟩), .pointer (some ⟨Tb, 0, none⟩), .pointer (some ⟨W.heap.size + 1, 0, none⟩)]] 94) := ⟨_, rfl⟩
  have hgA : Grew W W2 := by rw [hW2]; exact ((Grew.refl W).alloc _).alloc _
  have hB2 : Boxes B lp W.heap.size Tb (W.heap.size + 1) rv bv W2 := by
    refine ⟨⟨_, Prot.fresh hO hgA (Nat.le_refl _) (o := .cells #[.func (.yield lp) #[] #[]] 94 (0, 0)) ?_ rfl⟩, ⟨tb, hpt.kp (KpO.grew hO.1 hgA)⟩, ⟨_, Prot.fresh hO hgA (Nat.le_succ _) (o := .cells #[.func (.func 144) #[] #[.pointer (some ⟨W.heap.size, 0, none⟩), .pointer (some ⟨Tb, 0, none⟩), .pointer (some ⟨W.heap.size + 1, 0, none⟩)]] 94 (0, 0)) ?_ rfl⟩⟩
    · rw [hW2]
      rw [Below.heap_alloc _ _ _ (by simp)]
      exact World.alloc_heap_new W _
    · rw [hW2]
      have := World.alloc_heap_new (W.alloc (.cells #[.func (.yield lp) #[] #[]] 94)) (.cells #[.func (.func 144) #[] #[.pointer (some ⟨W.heap.size, 0, none⟩), .pointer (some ⟨Tb, 0, none⟩), .pointer (some ⟨W.heap.size + 1, 0, none⟩)]] 94)
      rwa [World.size_alloc] at this
  have hO2 := hO.kp (KpO.grew hO.1 hgA)
  have hi2 : W2.cell? ⟨Ib, 0, none⟩ = some (.int .i64 id) := keep_cell hgA hIb
  have ht2 : W2.cell? ⟨Tb, 0, none⟩ = some rv := keep_cell hgA t0
  have hv2 : W2.cell? ⟨W.heap.size + 1, 0, none⟩ = some (.func (.func 144) #[] #[.pointer (some ⟨W.heap.size, 0, none⟩), .pointer (some ⟨Tb, 0, none⟩), .pointer (some ⟨W.heap.size + 1, 0, none⟩)]) := by
    obtain ⟨tv, hpv⟩ := hB2.v
    exact hpv.cell 0 _ rfl
  have HJ2 := Lib.hid (hJ _ _ _ h0 hgA)
  have HB2 := Lib.hid hB2
  have HO2 := Lib.hid hO2
  have HG2 := Lib.hid (hG.trans hgA)
  have HVr := Lib.hid hVr
  have HVi := Lib.hid hVi
  have HNN := Lib.hid hN
  have HR := Lib.hid hr
  have HJ := Lib.hid hJ
  have HW2 := Lib.hid hW2
  have HI2 := Lib.hid hi2
  have HT2 := Lib.hid ht2
  have HV2 := Lib.hid hv2
  clear hW2 hi2 ht2 hv2 t0 hIb
  clear hV hVr hVi hS hT hY hv hf hB2 hO2 hgA hpt hO hG h0 hN hr
  by_cases hz : id = 0
  · subst hz
    have hbt : belowT ⟨rs, l⟩ 0 = rs.flatMap (belowL ⟨rs, l⟩ l.length) := by
      unfold belowT
      rw [if_pos rfl]
    rw [hbt] at HNN ⊢
    generalize belowL ⟨rs, l⟩ l.length = g at HVr HVi HNN ⊢
    obtain ⟨A, c, rfl, hlc, hc, hcr⟩ := HR.out.open_
    unfold maxLen at hc
    have HCR := Lib.hid hcr
    clear hbt hcr hid HVi
    obtain ⟨cn, fn⟩ := cell_two W (.cells #[.func (.yield lp) #[] #[]] 94) .nilFunc 94
    have ho := func_one (.func 144) #[.pointer (some ⟨W.heap.size, 0, none⟩), .pointer (some ⟨Tb, 0, none⟩), .pointer (some ⟨W.heap.size + 1, 0, none⟩)]
    have hi2 := HI2.out
    have ht2 := HT2.out
    rw [HW2.out] at hi2 ht2
    go_enter Tryz.func143, Tryz.ntmps143
    go_wp2
    go_loopg [6, 16] rs.length (fun gg _ s16 wr => ∃ k : Nat, k ≤ rs.length ∧ rs.length - k ≤ gg ∧ s16 = .int .i64 k ∧ Aside (RootR B lp W.heap.size Tb (W.heap.size + 1) (.slice A rs.length c) bv w0 J rs g k wr))
    case atStart => exact ⟨0, by omega, by omega, rfl, (show Aside _ from by rw [← HW2.out]; exact ⟨HB2.out, HO2.out, HG2.out, [], by simp, HJ2.out⟩)⟩
    case round =>
      obtain ⟨k, hk, hgk, rfl, RW⟩ := hrel
      by_cases hlt : k < rs.length
      · have hltz : (k : Int) < (rs.length : Int) := by omega
        have h0z : (0 : Int) ≤ (k : Int) := by omega
        obtain ⟨b, off, rfl, hbk, hcell⟩ := HCR.out (by omega)
        obtain ⟨hBr, hOr, hGr, ys, hys, hjr⟩ := RW.out
        have c0 := hcell wr hGr k hlt
        obtain ⟨tv, hpv⟩ := hBr.v
        have cv : wr.cell? ⟨W.heap.size + 1, 0, none⟩ = some (.func (.func 144) #[] #[.pointer (some ⟨W.heap.size, 0, none⟩), .pointer (some ⟨Tb, 0, none⟩), .pointer (some ⟨W.heap.size + 1, 0, none⟩)]) := hpv.cell 0 _ rfl
        have hsp := flat_split g rs k hlt
        have hlen : ys.length = ((rs.take k).flatMap g).length := by rw [← hys, List.length_map]
        have hcall := HVr.out rs[k] (List.getElem_mem hlt) 0 ys wr hBr hOr hGr hjr (by
          have := HNN.out
          rw [hsp] at this
          simp only [List.length_append] at this
          omega)
        have HCALL := Lib.hid hcall
        have HST := Lib.hid (fun W5 (zs : List (Int × Int)) h1 h2 h3 => rootStep (J := J) (g := g) (rs := rs) hlt hBr hOr hGr hys (W5 := W5) (zs := zs) h1 h2 h3)
        have HSX := Lib.hid (fun (zs : List (Int × Int)) h1 => rootStop (g := g) (rs := rs) hlt hys (zs := zs) h1)
        clear hcell hBr hOr hGr hys hjr hpv hsp hlen hcall
        generalize rs[k] = y at c0 HCALL HST HSX
        go_wp2_with fail
        refine HCALL.out.mono ?_
        rintro e W5 (⟨rfl, ⟨zs, hzs, hj5⟩, hk5⟩ | ⟨rfl, zs, hzs, hj5⟩)
        · have hst := HST.out W5 zs hzs hj5 hk5
          dsimp only
          go_wp2
          go_roundg (rs.length - (k + 1))
          case measure => omega
          case rel => exact ⟨k + 1, by omega, by omega, by go_num, (show Aside _ from hst)⟩
        · have hsx := HSX.out zs hzs
          dsimp only
          go_wp2
          refine bodyPost_ret (results_none rfl _ _ _) rfl ?_
          exact ⟨⟨_, rfl⟩, .inr ⟨ys ++ zs, hsx, hj5⟩⟩
      · have hltz : ¬ (k : Int) < (rs.length : Int) := by omega
        obtain rfl : k = rs.length := by omega
        go_wp2
        go_end0
        obtain ⟨-, -, -, ys, hys, hjr⟩ := RW.out
        rw [List.take_length] at hys
        exact ⟨⟨_, rfl⟩, .inl ⟨ys, hys, hjr⟩⟩
  · obtain ⟨b, hb⟩ := hid.resolve_left hz
    have hbt : belowT ⟨rs, l⟩ id = belowL ⟨rs, l⟩ l.length id := by
      unfold belowT
      rw [if_neg hz]
    rw [hbt] at HNN ⊢
    have HC := Lib.hid (HVi.out b hb 0 [] W2 HB2.out HO2.out HG2.out HJ2.out (by have := HNN.out; simpa using this))
    generalize belowL ⟨rs, l⟩ l.length id = L at HC ⊢
    have hz' : (id == 0) = false := by simpa using hz
    have hi2 := HI2.out
    have hv2 := HV2.out
    rw [HW2.out] at hi2 hv2 HC
    obtain ⟨cn, fn⟩ := cell_two W (.cells #[.func (.yield lp) #[] #[]] 94) .nilFunc 94
    have ho := func_one (.func 144) #[.pointer (some ⟨W.heap.size, 0, none⟩), .pointer (some ⟨Tb, 0, none⟩), .pointer (some ⟨W.heap.size + 1, 0, none⟩)]
    clear hbt hb hid HVr HVi hz
    go_enter Tryz.func143, Tryz.ntmps143
    go_wp2_with fail
    refine HC.out.mono ?_
    rintro e W5 (⟨rfl, ⟨zs, hzs, hj5⟩, hk5⟩ | ⟨rfl, zs, hzs, hj5⟩)
    · dsimp only
      go_wp2
      refine bodyPost_ret (results_none rfl _ _ _) rfl ?_
      exact ⟨⟨_, rfl⟩, .inl ⟨zs, hzs, by simpa using hj5⟩⟩
    · dsimp only
      go_wp2
      refine bodyPost_ret (results_none rfl _ _ _) rfl ?_
      exact ⟨⟨_, rfl⟩, .inr ⟨zs, hzs, by simpa using hj5⟩⟩
end
end Go.Proofs.YtjaknioojpgkiaaGreatDoor

/- slices.Insert of one number, on a row of the call's own, with a word on all other blocks. No condition but the sizes that a slice can have. -/
namespace Go.Proofs.YtjaknioojpgkiaaGreatDoor
open Go.RowKit

/-- The call returns a slice that owns cs from base on, in the row where s lay or in a new one; all other blocks are as they were. -/
def RetRow3 (e : TypeId) (k : Nat) (cs : List Value) (n base : Nat) (s : Value) (w : World) (x : Ending) (w' : World) : Prop := ∃ v, x = .returned v ∧ w'.ownsRow base e k v n cs ∧ w.grownBy w' s.ownBlock ∧ (v.ownBlock = s.ownBlock ∨ ∀ b, v.ownBlock = some b → w.heap.size ≤ b)
theorem grown_of {w0 w w' : World} {g : Nat} {o : Obj} (h : Grew w0 w) (h' : Grew w0 w') (hg : w'.heap[g]? = some o) (hk : ∀ b, b ≠ g → w'.heap[b]? = w.heap[b]?) : w.grownBy w' (some g) := by
  refine ⟨h'.os.trans h.os.symm, h'.tape.trans h.tape.symm, h'.output.trans h.output.symm, ?_, fun k _ hne => hk k (fun e => hne (by rw [e]))⟩
  refine Nat.le_of_not_lt fun hlt => ?_
  have hgl := (Array.getElem?_eq_some_iff.1 hg).1
  have h1 := hk w'.heap.size (by omega)
  rw [Array.getElem?_eq_none (Nat.le_refl _), Array.getElem?_eq_getElem hlt] at h1
  cases h1
theorem grown_grew {w w' : World} (h : Grew w w') (row : Option Nat) : w.grownBy w' row := ⟨h.os, h.tape, h.output, h.size, fun k hk _ => h.block k hk⟩
theorem own_splice {w : World} {g base n cap k : Nat} {e : TypeId} {cur xs : List Value} (hb : base ≤ g) (hg : w.heap[g]? = some (.cells cur.toArray e (0, 0))) (hn : n ≤ cap) (hc : cap ≤ maxLen) (hs : cur.length = cap * k) (hx : xs.length = n * k) (ht : ∃ r, cur = xs ++ r) : w.ownsRow base e k (.slice (some ⟨g, 0, none⟩) n cap) n xs := by
  obtain ⟨r, rfl⟩ := ht
  refine ⟨hx, .inr ⟨g, cap, _, rfl, hb, hg, hn, hc, by simpa using hs, ?_⟩⟩
  rw [← hx]
  simp
end Go.Proofs.YtjaknioojpgkiaaGreatDoor

/- tree.Below, walked: a unit and all that are below it, in order, in a row of the call's own. The conditions: the library's own variables hold what they must; the lists are short. -/
namespace Go.Proofs.YtjaknioojpgkiaaGreatDoor
open Go.RowKit Go.Shelf

attribute [local go_sem] Oper.semAt_some

theorem tWalk (rv bv : Value) (id : Int) (w : World) : Calls Tryz.prog 103 #[.agg #[rv, bv], .int .i64 id] w fun e w' => e = .returned (.func (.func 143) #[] #[.pointer (some ⟨w.heap.size, 0, none⟩), .pointer (some ⟨w.heap.size + 1, 0, none⟩)]) ∧ (w.alloc (.cells #[rv, bv] 25)).alloc (.cells #[.int .i64 id] 3) = w' := by
  go_enter Tryz.func103, Tryz.ntmps103
  go_wp2
  go_ret
  exact ⟨rfl, rfl⟩
theorem kpO_append {W w1 : World} {n₀ B : Nat} {t e : TypeId} {size : Nat} {v v' : Value} {k m : Nat} {xs ys : List Value} {tmp : Obj} (hv : Boxed W B t v) (hte : t ≠ e) (hrow : W.ownsRow n₀ e size v k xs) (hown' : w1.ownsRow n₀ e size v' m ys) (hgrow : (W.alloc tmp).grownBy w1 v.ownBlock)
    (hloc : v'.ownBlock = v.ownBlock ∨ v'.ownBlock = some (W.alloc tmp).heap.size) : KpO B W (w1.setCell ⟨B, 0, none⟩ v') := by
  have hv1 : Boxed w1 B t v := (hv.alloc tmp).kept hgrow (hv.not_row hte hrow)
  have hsz : W.heap.size + 1 ≤ w1.heap.size := by have := hgrow.size; simpa using this
  refine ⟨by simp; omega, fun j o ho hc hne hr => ?_, fun v'' hv'' => ?_⟩
  · rw [Below.heap_setCell _ _ _ _ hne]
    have hj := (Array.getElem?_eq_some_iff.1 ho).1
    rw [hgrow.block j (by simp; omega) (fun e => hr v hv.cell e.symm), Below.heap_alloc _ _ _ hj]
    exact ho
  · have : v'' = v' := by
      have h2 := (hv1.set v').cell
      rw [h2] at hv''
      exact (Option.some.inj hv'').symm
    subst this
    rcases hloc with h | h
    · exact .inl ⟨v, hv.cell, h.symm⟩
    · refine .inr fun b hb => ?_
      have h3 := (hown'.lt b hb).2
      rw [h] at hb
      injection hb with hb
      simp at hb h3 ⊢
      omega
open Classical in
/-- What Below returns. -/
noncomputable def belowR (t : Tr) (id : Int) : List Int × Int := if RightT t then (if topR t.brs id = 0 then (belowT t id, 0) else ([], topR t.brs id)) else ([], 1)
/-- The call returns a list in a row of its own, and an error. -/
def RetMine (r : List Int × Int) (w : World) (e : Ending) (w' : World) : Prop := ∃ v, e = .returned (.tuple #[v, .int .i64 r.2]) ∧ w'.ownsRow w.heap.size 3 1 v r.1.length (r.1.flatMap oneI) ∧ Grew w w'
/-- The iterator's contract. -/
theorem walkStops (rs : List Int) (l : List Br) (rv bv : Value) (w0 : World) (hr : SlI w0 rv rs) (hv : SlBr w0 bv l) (hf : l.length ≤ 1000000) (hT : RightT ⟨rs, l⟩) (id : Int) (hid : id = 0 ∨ ∃ b, brFind l id = some b) (B Tb Ib n : Nat) (w : World) (hO : OutIn B w) (hTb : ∃ t, Prot B w Tb (.cells #[rv, bv] t (0, 0))) (hIb : w.cell? ⟨Ib, 0, none⟩ = some (.int .i64 id)) (hG : Grew w0 w) :
    SeqStopsK Fence.wide n Tryz.prog 143 #[.pointer (some ⟨Tb, 0, none⟩), .pointer (some ⟨Ib, 0, none⟩)] (fun x : Int × Int => #[Value.int .i64 x.1, Value.int .i64 x.2]) (KpB w0.heap.size B) (fun ys => ys.map Prod.fst = belowT ⟨rs, l⟩ id) (fun pre => pre.map Prod.fst <+: belowT ⟨rs, l⟩ id) (belowT ⟨rs, l⟩ id).length w :=
  fun lp J Jx W hW hJa _ hY h0 => by
    have hgw : Grew w W := hW
    refine callsIn_wide.2 ?_
    exact tWalk1 rs l rv bv w0 hr hv hf hT B lp W.heap.size Tb (W.heap.size + 1) (belowT ⟨rs, l⟩ id).length J Jx (fun s A A' hj hg => hJa s A A' none hj (grown_grew hg none) (fun r e => by cases e))
      (fun m pre x W1 hj hlt => yieldFree rfl m (hY pre x W1 hj hlt)) Ib id hid (Nat.le_refl _) W (hTb.imp fun t p => p.kp (KpO.grew hO.1 hgw)) (keep_cell hgw hIb) (hO.kp (KpO.grew hO.1 hgw)) (hG.trans hgw) h0 rfl rfl
set_option maxHeartbeats 4000000 in
theorem tBelowNo (rs : List Int) (l : List Br) (id : Int) (rv bv : Value) (w : World) (hE : Env w) (hr : SlI w rv rs) (hv : SlBr w bv l) (hf : FewBr l) (hrl : rs.length ≤ 1000000) (hno : RightT ⟨rs, l⟩ → topR l id ≠ 0) :
    Calls Tryz.prog 40 #[.agg #[rv, bv], .int .i64 id] w (RetMine (belowR ⟨rs, l⟩ id) w) := by
  have hO := fun W (hW : Grew w W) n hn => tOrTop rs l id rv bv W (hE.mono hW) (hr.mono hW) (hv.mono hW) hf hrl n hn
  obtain ⟨n, hz, hn, hres⟩ : ∃ n : Int, n ≠ 0 ∧ ((¬ RightT ⟨rs, l⟩ → n = 1) ∧ (RightT ⟨rs, l⟩ → n = topR l id)) ∧ belowR ⟨rs, l⟩ id = ([], n) := by
    by_cases hT : RightT ⟨rs, l⟩
    · refine ⟨topR l id, hno hT, ⟨fun h => absurd hT h, fun _ => rfl⟩, ?_⟩
      unfold belowR
      rw [if_pos hT]
      show (if topR l id = 0 then (belowT ⟨rs, l⟩ id, (0 : Int)) else ([], topR l id)) = _
      rw [if_neg (hno hT)]
    · refine ⟨1, by decide, ⟨fun _ => rfl, fun h => absurd h hT⟩, ?_⟩
      unfold belowR
      rw [if_neg hT]
  have KO := Lib.hid (fun W hW => hO W hW n hn)
  rw [hres]
  have hz' : (n != 0) = true := by simpa using hz
  clear hE hr hv hf hrl hO hn hz hres hno
  go_enter Tryz.func40, Tryz.ntmps40
  go_wp2_with fail
  refine (KO.out _ ((Grew.refl w).alloc _)).mono ?_
  rintro e w1 ⟨rfl, g1⟩
  dsimp only
  go_wp2
  go_ret2
  exact ⟨_, rfl, World.ownsRow_nil _ _ _ _, ((Grew.refl w).alloc _).trans g1⟩
set_option maxRecDepth 100000 in
set_option maxHeartbeats 4000000 in
theorem tBelow (rs : List Int) (l : List Br) (id : Int) (rv bv : Value) (w : World) (hE : Env w) (hr : SlI w rv rs) (hv : SlBr w bv l) (hf : FewBr l) (hrl : rs.length ≤ 1000000) (hlen : RightT ⟨rs, l⟩ → (belowT ⟨rs, l⟩ id).length ≤ 1000000) :
    Calls Tryz.prog 40 #[.agg #[rv, bv], .int .i64 id] w (RetMine (belowR ⟨rs, l⟩ id) w) := by
  have hO := fun W (hW : Grew w W) n hn => tOrTop rs l id rv bv W (hE.mono hW) (hr.mono hW) (hv.mono hW) hf hrl n hn
  by_cases hT : RightT ⟨rs, l⟩
  case neg => exact tBelowNo rs l id rv bv w hE hr hv hf hrl (fun h => absurd h hT)
  have hn : (¬ RightT ⟨rs, l⟩ → topR l id = 1) ∧ (RightT ⟨rs, l⟩ → topR l id = topR l id) := ⟨fun h => absurd hT h, fun _ => rfl⟩
  have KO := Lib.hid (fun W hW => hO W hW _ hn)
  by_cases hz : topR l id = 0
  case neg => exact tBelowNo rs l id rv bv w hE hr hv hf hrl (fun _ => hz)
  have hres : belowR ⟨rs, l⟩ id = (belowT ⟨rs, l⟩ id, 0) := by
    unfold belowR
    rw [if_pos hT, if_pos hz]
  have hstop := fun B Tb Ib n w' => walkStops rs l rv bv w hr hv hf.1 hT id (top_found hz) B Tb Ib n w'
  have hlen' := hlen hT
  rw [hres]
  rw [hz] at KO
  generalize belowT ⟨rs, l⟩ id = L at hstop hlen' ⊢
  have HS := Lib.hid hstop
  have HLEN := Lib.hid hlen'
  obtain ⟨i0, hi, hz0, hz1, hz2⟩ := info_parts cinfoI
  clear hE hr hv hf hrl hO hn hz hres hT hlen hstop hlen'
  refine (callsIn_wide (n := 9)).1 ?_
  refine callsIn_of_wp_marks Tryz.func40 rfl trivial ?_ rfl
  simp only [Tryz.ntmps40, List.size_toArray, List.length_cons, List.length_nil, Nat.reduceAdd, Nat.reduceSub, Array.replicate_succ, Array.replicate_zero, List.push_toArray, List.append_toArray, List.nil_append, List.cons_append]
  gi_wp2_with fail
  refine ⟨trivial, (callsIn_wide.2 (KO.out _ ((Grew.refl w).alloc _))).mono ?_⟩
  rintro e w1 ⟨rfl, g1⟩
  have b0 := new_cell g1 0 _ rfl
  have b1 := new_cell g1 1 _ rfl
  have HG1 := Lib.hid (((Grew.refl w).alloc _).trans g1)
  have c0 := keep_cell ((Grew.refl w1).alloc (.cells #[.slice none 0 0] 22)) b0
  have c1 := keep_cell ((Grew.refl w1).alloc (.cells #[.slice none 0 0] 22)) b1
  clear g1 b0 b1
  dsimp only
  gi_wp2_with fail
  refine ⟨trivial, (callsIn_wide.2 (tWalk rv bv id _)).mono ?_⟩
  rintro e w2 ⟨rfl, hw2⟩
  dsimp only
  gi_wp2_with fail
  have hOB : OutIn w1.heap.size w2 := by
    rw [← hw2]
    refine ⟨by simp; omega, fun v hv b hb => ?_⟩
    rw [World.cell?_alloc_lt _ _ _ (by simp; omega), World.cell?_alloc_lt _ _ _ (by simp)] at hv
    rw [(Boxed.new w1 22 (.slice none 0 0)).cell] at hv
    obtain rfl := Option.some.inj hv
    simp [Value.ownBlock] at hb
  have hO1 : OutIn w1.heap.size (w1.alloc (.cells #[.slice none 0 0] 22)) := ⟨by simp, fun v hv b hb => by
    rw [(Boxed.new w1 22 (.slice none 0 0)).cell] at hv
    obtain rfl := Option.some.inj hv
    simp [Value.ownBlock] at hb⟩
  have hPT : Prot w1.heap.size w2 (w1.alloc (.cells #[.slice none 0 0] 22)).heap.size (.cells #[rv, bv] 25 (0, 0)) := by
    rw [← hw2]
    exact (Prot.new hO1 rfl).kp (KpO.grew (by simp; omega) ((Grew.refl _).alloc _))
  have hCI : w2.cell? ⟨(w1.alloc (.cells #[.slice none 0 0] 22)).heap.size + 1, 0, none⟩ = some (.int .i64 id) := by
    rw [← hw2]
    exact (cell_two _ _ _ _).1
  have hBX : Boxed w2 w1.heap.size 22 (.slice none 0 0) := by
    rw [← hw2]
    exact ((Boxed.new w1 _ _).alloc _).alloc _
  have hG2 : Grew w w2 := by
    rw [← hw2]
    exact ((HG1.out.alloc _).alloc _).alloc _
  have hs12 : w1.heap.size < w2.heap.size := hOB.1
  have hs1 : w.heap.size ≤ w1.heap.size := HG1.out.size
  have hst := HS.out w1.heap.size (w1.alloc (.cells #[.slice none 0 0] 22)).heap.size ((w1.alloc (.cells #[.slice none 0 0] 22)).heap.size + 1) 8 w2 hOB ⟨_, hPT⟩ hCI hG2
  generalize (w1.alloc (.cells #[.slice none 0 0] 22)).heap.size = Tb at hst ⊢
  have hlen := HLEN.out
  clear hw2 hPT hCI hO1 c0 c1
  refine wpIn_rangeFunc_ownG rfl (by omega) (gf := 143) (lb := #[.pointer (some ⟨Tb, 0, none⟩), .pointer (some ⟨Tb + 1, 0, none⟩)]) rfl trivial (enters_of Tryz.func143 (by kernel_rfl) rfl)
    hst KpB.trans (kpB_put hG2.size hs12) (Below.refl _ _) (fun _ => rfl)
    (fun pre W => (∃ v, Boxed W w1.heap.size 22 v ∧ W.ownsRow w.heap.size 3 1 v pre.length ((pre.map Prod.fst).flatMap oneI) ∧ (v = .slice none 0 0 ↔ pre = [])) ∧ Below w.heap.size w W)
    (fun _ _ _ => False)
    (OwnFrom.and (Own.from (holdsRow_own w.heap.size w1.heap.size 22 3 1 (fun pre : List (Int × Int) => pre.length) (fun pre => (pre.map Prod.fst).flatMap oneI) (fun pre v => v = .slice none 0 0 ↔ pre = [])) _) (ownFrom_below (Nat.le_refl _) hG2.size))
    (fun _ _ _ _ _ hs _ _ => hs)
    ⟨⟨_, hBX, World.ownsRow_nil _ _ _ _, by simp⟩, hG2⟩
    (fun x => { tmps := #[.agg #[rv, bv], .int .i64 id, .pointer (some ⟨w.heap.size, 0, none⟩), undef, .slice none 0 0, .int .i64 0, .int .i64 0, .pointer (some ⟨w1.heap.size, 0, none⟩), .int .i64 x.1, .agg #[rv, bv], .int .i64 id, .int .i64 0, .int .i64 0, .bool false, undef, .agg #[rv, bv], .int .i64 id, .func (.func 143) #[] #[.pointer (some ⟨Tb, 0, none⟩), .pointer (some ⟨Tb + 1, 0, none⟩)], .int .i64 x.1, .int .i64 x.2, undef, undef, undef, undef, undef], defers := [] }) ?assign ?body ?done ?stop
  case assign =>
    intro l x W K hK
    gi_wp2
    exact hK
  case body =>
    rintro l pre x W ⟨⟨v, hv, hrow, hnil⟩, hB⟩ hlt
    have hc := hv.cell
    gi_wp2_with (gi_at_builtin; refine wpListIn_append_own_at _ rfl _ _ 22 rfl w.heap.size 3 i0 (.int .i64 0) 1 8 Tryz.underlying22 hi hz0 hz1 hz2 rfl (by decide) _ _ _ rfl (hrow.alloc _) ⟨W.heap.size, 0, none⟩ 1 1 [Value.int .i64 x.1] rfl rfl (cell_one_new _ _ _) (by simp [Value.oneCell']) (by unfold maxLen; omega) (by omega) (by have := hB.size; simp; omega) ?_; intro v' w1' hown' hgrow _ hloc; have hkp := kpO_append hv (by decide) hrow hown' hgrow hloc; obtain ⟨g', cap', rfl⟩ := ownsRow_succ hown'; obtain ⟨hv1, hv2, hr2, hk2, hb2⟩ := hv.appended (by decide) hrow hB.size hs1 hown' hgrow; have hc1 := hv1.cell; have hf1 := hv1.frozen)
    exact ⟨hk2.from _, ⟨hb2, hkp⟩, ⟨_, hv2, by simpa [oneI] using hr2, by simp⟩, hB.trans hb2⟩
  case done =>
    rintro D ys W hD rfl ⟨⟨v, hv, hrow, hnil⟩, hB⟩ hK
    have hc := hv.cell
    gi_wp2
    refine ⟨by simp, .inl ⟨_, _, rfl, run_takeDeferred hK, ?_⟩⟩
    refine ⟨_, results_tmp2 rfl _ _ _, v, rfl, ?_, hB.trans (belowK_b (w := w) (Nat.le_refl _) W D _ _ (by omega) hK rfl rfl)⟩
    have := ownsRow_putObj hrow (.deferred none) hK rfl
    simpa using this
  case stop =>
    rintro D c pre W _ _ h _
    exact h.elim
end Go.Proofs.YtjaknioojpgkiaaGreatDoor

/- A range over a function whose iterator writes one box that it captured: the contract and the law. The conditions: the box lies ahead of the loop; the body writes no record of a loop. -/
namespace Go.Proofs.YtjaknioojpgkiaaGreatDoor
open Go.RowKit Go.Shelf

/-- What a round keeps: what lay below n₀, and all blocks of cells. -/
structure KpN (n₀ : Nat) (W W' : World) : Prop where
  below : Below n₀ W W'
  cells : ∀ (k : Nat) (o : Obj), W.heap[k]? = some o → o.isCells = true → W'.heap[k]? = some o
theorem KpN.refl (n₀ : Nat) (W : World) : KpN n₀ W W := ⟨Below.refl _ _, fun _ _ h _ => h⟩
theorem KpN.trans {n₀ : Nat} {A B C : World} (h : KpN n₀ A B) (k : KpN n₀ B C) : KpN n₀ A C := ⟨h.below.trans k.below, fun i o ho hc => k.cells i o (h.cells i o ho hc) hc⟩
theorem KpN.grew {n₀ : Nat} {W W' : World} (hn : n₀ ≤ W.heap.size) (h : Grew W W') : KpN n₀ W W' :=
  ⟨h.below.mono hn, fun k o ho _ => by rw [h.block k (Array.getElem?_eq_some_iff.1 ho).1]; exact ho⟩
theorem KpN.put {n₀ : Nat} {W : World} {l : Nat} {L L' : Loop} (hl : n₀ ≤ l) (h : W.heap[l]? = some (.loop L)) : KpN n₀ W (W.putObj l (.loop L')) := by
  have hg := grownBy_putObj' W l (.loop L')
  refine ⟨(Below.refl n₀ W).grown hg (by have := (Array.getElem?_eq_some_iff.1 h).1; omega) (fun k e => by cases e; exact hl), fun k o ho hc => ?_⟩
  rw [hg.block k (Array.getElem?_eq_some_iff.1 ho).1 (fun e => ?_)]
  · exact ho
  · cases e
    rw [h] at ho
    cases ho
    cases hc
/-- An invariant that says nothing of box X, nor of what is laid from block B on. -/
def TurnsX {β : Type} (X B : Nat) (I : β → World → Prop) : Prop := ∀ s W W' row, I s W → W.grownBy W' row → (∀ r, row = some r → r = X ∨ B ≤ r) → I s W'
/-- An iterator that writes box X alone, beside what it makes. -/
def SeqStopsU {α : Type} (F : Fence) (n : Nat) (P : Program) (g : Nat) (lb : Array Value) (encs : α → Array Value) (n₀ X : Nat) (S Sp : List α → Prop) (N : Nat) (w : World) : Prop :=
  ∀ (l : Nat) (J Jx : List α → World → Prop) (W : World), Grew w W → (∀ s A B, J s A → A.grownBy B (some X) → J s B) → (∀ s A B, Jx s A → A.grownBy B (some X) → Jx s B) →
    (∀ pre x W1, J pre W1 → pre.length < N → YieldAt F (n - 1) P l (encs x) W1 fun e W' =>
      (e = .returned (.bool true) ∧ J (pre ++ [x]) W' ∧ KpN n₀ W1 W') ∨ (e = .returned (.bool false) ∧ Jx (pre ++ [x]) W')) →
    J [] W →
    CallsIn F n P g (#[.func (.yield l) #[] #[]] ++ lb) W fun e W' => (∃ v, e = .returned v) ∧ ((∃ xs, S xs ∧ J xs W') ∨ (∃ pre, Sp pre ∧ Jx pre W'))
/-- The loop's record and the block of its deferred calls. -/
structure RecAt (D : Nat) (L : Loop) (W : World) : Prop where
  loop : W.heap[D + 1]? = some (.loop L)
  defd : W.heap[D]? = some (.deferred (some []))
theorem RecAt.others {D : Nat} {L : Loop} {W W' : World} (h : RecAt D L W) (k : KeepsOthers W W') : RecAt D L W' := ⟨k.same _ _ h.loop rfl, k.same _ _ h.defd rfl⟩
theorem RecAt.put {D : Nat} {L : Loop} {W : World} (h : RecAt D L W) (L' : Loop) : RecAt D L' (W.putObj (D + 1) (.loop L')) :=
  ⟨World.putObj_heap_same (Array.getElem?_eq_some_iff.1 h.loop).1, (World.putObj_heap_other (by omega)).trans h.defd⟩
theorem RecAt.grown {D X : Nat} {L : Loop} {W W' : World} (h : RecAt D L W) (hX : X < D) (g : W.grownBy W' (some X)) : RecAt D L W' :=
  ⟨(g.block _ (Array.getElem?_eq_some_iff.1 h.loop).1 (fun e => by cases e; omega)).trans h.loop, (g.block _ (Array.getElem?_eq_some_iff.1 h.defd).1 (fun e => by cases e; omega)).trans h.defd⟩
def recOf (fn : FuncId) (tmps : Array Value) (ps : Array Tmp) (assign body : Code) (D : Nat) (st : LoopState) (pe : Option Code) : Loop := { state := st, pending := pe, fn, tmps, params := ps, assign, body, defers := D }
theorem TurnsX.put {β : Type} {X B : Nat} {I : β → World → Prop} (h : TurnsX X B I) {s : β} {W : World} {l : Nat} (o : Obj) (hs : I s W) (hl : B ≤ l) : I s (W.putObj l o) :=
  h s W _ (some l) hs (grownBy_putObj' W l o) (fun r e => by cases e; exact .inr hl)
theorem wpIn_rangeU {α : Type} {F : Fence} {n : Nat} {P : Program} {g : Operand} {ps : Array Tmp} {assign body : Code} {Q : Exit → Act → World → Prop} {a : Act} {w : World}
    (hro : F.round = none) (h1 : 1 ≤ n) {gf : Nat} {lb : Array Value} (hg : a.eval g = .func (.func gf) #[] lb) (hFg : F.fn gf) (eg : ∀ args w, (callFunc gf args).run P w = .ok (.enter gf args) w)
    {encs : α → Array Value} {n₀ X : Nat} {S Sp : List α → Prop} {N : Nat} (hX : X < w.heap.size) (hn : n₀ ≤ w.heap.size) (hseq : SeqStopsU F (n - 1) P gf lb encs n₀ X S Sp N w) (hps : ∀ x, (encs x).size = ps.size)
    (I : List α → World → Prop) (Ix : Code → List α → World → Prop) (hI : TurnsX X w.heap.size I) (hIx : ∀ c, TurnsX X w.heap.size (Ix c)) (h0 : I [] w) (a₁ : α → Act)
    (hassign : ∀ (l : Nat) (x : α) (W : World) (K : Act → World → Prop), K (a₁ x) W →
      assign.wpIn (F.inRound l) (n - 1 - 1) P (Exit.then K (fun _ _ _ => False)) { tmps := (ps.zip (encs x)).foldl (fun t (p, v) => t.setIfInBounds p v) a.tmps, defers := [] } W)
    (hbody : ∀ (l : Nat) (pre : List α) (x : α) (W : World), I pre W → pre.length < N → body.wpIn (F.inRound l) (n - 1 - 1) P (ownPostK (KpN n₀) I Ix (pre ++ [x]) W) (a₁ x) W)
    (hdone : ∀ (D : Nat) (xs : List α) (W : World), w.heap.size ≤ D → S xs → I xs W → W.heap[D]? = some (.deferred (some [])) → Q .normal { a with defers := { target := .collected D, args := #[] } :: a.defers } W)
    (hstop : ∀ (D : Nat) (c : Code) (pre : List α) (W : World), w.heap.size ≤ D → Sp pre → Ix c pre W → W.heap[D]? = some (.deferred (some [])) → c.wpIn F n P Q { a with defers := { target := .collected D, args := #[] } :: a.defers } W) :
    (Code.rangeFunc g ps assign body).wpIn F n P Q a w := by
  refine wpIn_rangeFunc fun fn hfn => ?_
  rw [hro]
  obtain ⟨D, hD⟩ : ∃ D, D = w.heap.size := ⟨_, rfl⟩
  obtain ⟨R, hR⟩ : ∃ R, R = recOf fn a.tmps ps assign body D := ⟨_, rfl⟩
  obtain ⟨W1, hW1⟩ : ∃ W1, W1 = (w.alloc (.deferred (some []))).alloc (.loop (R .ready none)) := ⟨_, rfl⟩
  have hg1 : Grew w W1 := by rw [hW1]; exact ((Grew.refl w).alloc _).alloc _
  have hrec : RecAt D (R .ready none) W1 := by
    refine ⟨?_, ?_⟩
    · rw [hW1, hD]
      have := World.alloc_heap_new (w.alloc (.deferred (some []))) (.loop (R .ready none))
      rwa [World.size_alloc] at this
    · rw [hW1, hD]
      exact (Below.heap_alloc _ _ _ (by simp)).trans (World.alloc_heap_new w _)
  have hI1 : I [] W1 := hI [] w W1 none h0 (grown_grew hg1 none) (fun r e => by cases e)
  rw [← hD] at hI hIx hX hdone hstop hn
  refine ⟨D + 1, [{ target := .collected D, args := #[] }], W1, { target := .fn (.func gf) lb, args := #[.func (.yield (D + 1)) #[] #[]] }, W1, gf, #[.func (.yield (D + 1)) #[] #[]] ++ lb, W1, ?_, ?_, ?_, ?_, fun _ => h1, ?_⟩
  · rw [hW1, hR, hD]
    exact run_enterLoop_outer _ _ _ _ _
  · simp only [resolve, hg]
    simp [go_sem]
  · intro f' hf'
    simp [Target.leads] at hf'
    subst hf'
    exact hFg
  · simp [invoke, go_sem, eg]
  · refine (hseq (D + 1) (fun pre W => I pre W ∧ RecAt D (R .ready none) W) (fun pre W => ∃ c, Ix c pre W ∧ RecAt D (R .done (some c)) W) W1 hg1
      (fun s A B h k => ⟨hI s A B _ h.1 k (fun r e => by cases e; exact .inl rfl), h.2.grown hX k⟩)
      (fun s A B h k => h.imp fun c hc => ⟨hIx c s A B _ hc.1 k (fun r e => by cases e; exact .inl rfl), hc.2.grown hX k⟩) ?_ ⟨hI1, hrec⟩).mono ?_
    · rintro pre x W ⟨hi, hr⟩ hlen
      have hy := run_yield (P := P) (args := encs x) hr.loop (by rw [hR]; exact hps x)
      rw [hR] at hy
      have hr2 := hr.put (R .busy none)
      have hk2 : KpN n₀ W (W.putObj (D + 1) (.loop (R .busy none))) := KpN.put (by omega) hr.loop
      refine ⟨fn, _, assign, body, hy, roundIn_of_wpIn hfn (hassign _ x W _ ⟨_, run_beginRound hr.loop (by rw [hR]; rfl), ?_⟩)⟩
      have hb := hbody (D + 1) pre x _ (hI.put (.loop (R .busy none)) hi (Nat.le_succ D)) hlen
      have he : ({ R .ready none with state := .busy } : Loop) = R .busy none := by rw [hR]; rfl
      rw [he]
      refine wpIn_mono hb ?_
      have fin : ∀ (jump : Option Code) (W3 : World), KeepsOthers (W.putObj (D + 1) (.loop (R .busy none))) W3 →
          (Instr.endRound (D + 1) jump).run P W3 = .ok (.bool jump.isNone) (W3.putObj (D + 1) (.loop (R (if jump.isNone then .ready else .done) jump))) ∧ RecAt D (R .busy none) W3 ∧ RecAt D (R (if jump.isNone then .ready else .done) jump) (W3.putObj (D + 1) (.loop (R (if jump.isNone then .ready else .done) jump))) := fun jump W3 hk => by
        have hr3 := hr2.others hk
        have := run_endRound (P := P) jump hr3.loop
        refine ⟨?_, hr3, hr3.put _⟩
        rw [this, hR]
        rfl
      rintro e a3 W3 hp
      cases e with
      | normal =>
        obtain ⟨hk3, hkp3, hi3⟩ := hp
        obtain ⟨h3, h4, h5⟩ := fin none W3 hk3
        exact ⟨_, _, h3, .inl ⟨rfl, ⟨hI.put _ hi3 (Nat.le_succ D), h5⟩, (hk2.trans hkp3).trans (KpN.put (by omega) h4.loop)⟩⟩
      | ret =>
        obtain ⟨hk3, hi3⟩ := hp
        obtain ⟨h3, h4, h5⟩ := fin (some .ret) W3 hk3
        exact ⟨_, _, h3, .inr ⟨rfl, _, (hIx _).put _ hi3 (Nat.le_succ D), h5⟩⟩
      | exit id =>
        obtain ⟨hk3, hi3⟩ := hp
        obtain ⟨h3, h4, h5⟩ := fin (some (.exit id)) W3 hk3
        exact ⟨_, _, h3, .inr ⟨rfl, _, (hIx _).put _ hi3 (Nat.le_succ D), h5⟩⟩
      | goto t =>
        obtain ⟨hk3, hi3⟩ := hp
        obtain ⟨h3, h4, h5⟩ := fin (some (.goto t)) W3 hk3
        exact ⟨_, _, h3, .inr ⟨rfl, _, (hIx _).put _ hi3 (Nat.le_succ D), h5⟩⟩
      | panic ch => exact hp.elim
      | outgrown => exact hp.elim
    · rintro e W2 ⟨⟨v, rfl⟩, (⟨xs, hS, hi, hr⟩ | ⟨pre, hSp, c, hi, hr⟩)⟩
      · have := run_endLoop (P := P) hr.loop (by rw [hR]; simp [recOf])
        exact ⟨none, _, by rw [this, hR]; rfl, hdone D xs _ (by omega) hS (hI.put _ hi (Nat.le_succ D)) ((World.putObj_heap_other (by omega)).trans hr.defd)⟩
      · have := run_endLoop (P := P) hr.loop (by rw [hR]; simp [recOf])
        exact ⟨some c, _, by rw [this, hR]; rfl, hstop D c pre _ (by omega) hSp ((hIx c).put _ hi (Nat.le_succ D)) ((World.putObj_heap_other (by omega)).trans hr.defd)⟩
end Go.Proofs.YtjaknioojpgkiaaGreatDoor

/- inherit: the effective value, found's contract given. The condition: what found returns is known. -/
namespace Go.Proofs.YtjaknioojpgkiaaGreatDoor
open Go.RowKit

set_option maxHeartbeats 4000000 in
set_option maxRecDepth 100000 in
theorem iEff (t : Tr) (ls : List ByteArray) (vs : List Val) (u n : Int) (wt : ByteArray) (rv bv lv vv : Value) (w : World) (hl : SlS w lv ls)
    (hF : ∀ W lg, Grew w W → Calls Tryz.prog 85 #[.agg #[rv, bv, lv, vv], .int .i64 u, .int .i64 n, .string lg] W (RetV (foundF t.brs vs u n lg) W)) :
    Calls Tryz.prog 93 #[.agg #[rv, bv, lv, vv], .int .i64 u, .int .i64 n, .string wt] w (RetV (effF t.brs ls vs u n wt) w) := by
  have KO := Lib.hid (fun W (hW : Grew w W) => order_all ls wt lv W (hl.mono hW))
  have KF := Lib.hid hF
  generalize hRES : effF t.brs ls vs u n wt = RES
  unfold effF at hRES
  generalize orderF ls wt = OL at KO hRES
  obtain ⟨L, oe⟩ := OL
  dsimp only at KO hRES
  have HRES := Lib.hid hRES
  clear hl hF hRES
  have HB := Lib.hid (show ∀ W, Grew ((w.alloc (.cells #[rv, bv, lv, vv] 114)).alloc (.cells [.int .i64 0, .int .i64 0, .string ⟨#[]⟩, .string ⟨#[]⟩].toArray 29)) W → W.heap[w.heap.size]? = some (.cells #[rv, bv, lv, vv] 114 (0, 0)) ∧ W.heap[w.heap.size + 1]? = some (.cells #[.int .i64 0, .int .i64 0, .string ⟨#[]⟩, .string ⟨#[]⟩] 29 (0, 0)) from fun W g => by
    have e1 := heap_newI w (.cells #[rv, bv, lv, vv] 114)
    have e2 := heap_newI (w.alloc (.cells #[rv, bv, lv, vv] 114)) (.cells [.int .i64 0, .int .i64 0, .string ⟨#[]⟩, .string ⟨#[]⟩].toArray 29)
    rw [World.size_alloc] at e2
    exact ⟨heap_keepI (((Grew.refl _).alloc _).trans g) e1, heap_keepI g e2⟩)
  have GA := Lib.hid (((Grew.refl w).alloc (.cells #[rv, bv, lv, vv] 114)).alloc (.cells [.int .i64 0, .int .i64 0, .string ⟨#[]⟩, .string ⟨#[]⟩].toArray 29))
  go_enter Tryz.func93, Tryz.ntmps93
  go_wp2_with fail
  generalize (w.alloc (.cells #[rv, bv, lv, vv] 114)).alloc (.cells [.int .i64 0, .int .i64 0, .string ⟨#[]⟩, .string ⟨#[]⟩].toArray 29) = WA at GA HB ⊢
  refine (KO.out _ GA.out).mono ?_
  rintro e w1 ⟨v1, rfl, hs1, g1⟩
  obtain ⟨A, c, rfl, hlc, hc, hr⟩ := hs1.open_
  unfold maxLen at hc
  have HR := Lib.hid hr
  have G1 := Lib.hid g1
  clear hs1 g1 hr KO
  dsimp only
  go_wp2_with fail
  go_loopg [25] L.length (fun gg s25 wr => ∃ k : Nat, k ≤ L.length ∧ L.length - k ≤ gg ∧ s25 = .int .i64 k ∧ Aside ((L.drop k).findSome? (fun lg => foundF t.brs vs u n lg) = RES) ∧ Aside (Grew w1 wr))
  case atStart => exact ⟨0, by omega, by omega, rfl, (show Aside _ from HRES.out), (show Aside _ from Grew.refl _)⟩
  case round =>
    obtain ⟨k, hk, hgk, rfl, R, GW⟩ := hrel
    have G := Lib.hid (G1.out.trans GW.out)
    have HG := Lib.hid (GA.out.trans G.out)
    obtain ⟨⟨x0, x1, x2, x3⟩, -⟩ := four_cells (HB.out wr G.out).1
    obtain ⟨⟨q0, q1, q2, q3⟩, z0, z1, z2, z3⟩ := four_cells (HB.out wr G.out).2
    by_cases hlt : k < L.length
    · have hltz : (k : Int) < (L.length : Int) := by omega
      have h0z : (0 : Int) ≤ (k : Int) := by omega
      obtain ⟨bb, off, rfl, hb, hcell⟩ := HR.out (by omega)
      have c0 := hcell wr GW.out k hlt
      have hR := R.out
      rw [List.drop_eq_getElem_cons hlt, List.findSome?_cons] at hR
      generalize L[k] = y at c0 hR
      have kf := fun W (hW : Grew w W) => KF.out W y hW
      generalize foundF t.brs vs u n y = o at kf hR
      have KFY := Lib.hid kf
      have HRR := Lib.hid hR
      clear hcell R hR kf
      cases o with
      | some x =>
        obtain rfl : RES = some x := HRR.out.symm
        obtain ⟨xu, xe, xl, xt⟩ := x
        unfold RetV at KFY
        unfold Val.agg at KFY
        dsimp only [Option.getD_some, Option.isSome_some] at KFY
        clear HRR HRES
        go_wp2_with fail
        refine (KFY.out _ HG.out).mono ?_
        rintro e w2 ⟨rfl, g2⟩
        have gz := g2.alloc (.cells #[.int .i64 xu, .int .i64 xe, .string xl, .string xt] 29)
        have G2 := Lib.hid (G.out.trans gz)
        have HG2 := Lib.hid (GA.out.trans G2.out)
        clear x0 x1 x2 x3 q0 q1 q2 q3 z0 z1 z2 z3 g2 gz
        obtain ⟨⟨q0, q1, q2, q3⟩, z0, z1, z2, z3⟩ := four_cells (HB.out _ G2.out).2
        dsimp only
        go_wp2_with fail
        obtain ⟨p0, p1, p2, p3⟩ := res_four (v0 := .int .i64 xu) (v1 := .int .i64 xe) (v2 := .string xl) (v3 := .string xt) q0 q1 q2 q3
        refine bodyPost_ret (v := .tuple #[.agg #[.int .i64 xu, .int .i64 xe, .string xl, .string xt], .bool true]) (by simp [results, Tryz.results93, go_sem, p0, p1, p2, p3]) rfl ?_
        exact ⟨rfl, grew_four HG2.out (by omega) _ _ _ _⟩
      | none =>
        have HNX := Lib.hid (show (L.drop (k + 1)).findSome? (fun lg => foundF t.brs vs u n lg) = RES from HRR.out)
        unfold RetV at KFY
        unfold Val.agg val0 at KFY
        dsimp only [Option.getD_none, Option.isSome_none] at KFY
        clear HRR
        go_wp2_with fail
        refine (KFY.out _ HG.out).mono ?_
        rintro e w2 ⟨rfl, g2⟩
        have G2 := Lib.hid (GW.out.trans g2)
        clear x0 x1 x2 x3 q0 q1 q2 q3 z0 z1 z2 z3 g2
        dsimp only
        go_wp2
        go_roundg (L.length - (k + 1))
        case measure => omega
        case rel => exact ⟨k + 1, by omega, by omega, by go_num, (show Aside _ from HNX.out), (show Aside _ from G2.out.alloc _)⟩
    · have hltz : ¬ (k : Int) < (L.length : Int) := by omega
      obtain rfl : k = L.length := by omega
      obtain rfl : RES = none := by have := R.out; rw [List.drop_length] at this; exact this.symm
      clear R HRES
      go_wp2_with fail
      obtain ⟨p0, p1, p2, p3⟩ := res_four (v0 := .int .i64 0) (v1 := .int .i64 0) (v2 := .string ⟨#[]⟩) (v3 := .string ⟨#[]⟩) q0 q1 q2 q3
      refine bodyPost_ret (v := .tuple #[.agg #[.int .i64 0, .int .i64 0, .string ⟨#[]⟩, .string ⟨#[]⟩], .bool false]) (by simp [results, Tryz.results93, go_sem, p0, p1, p2, p3]) rfl ?_
      exact ⟨rfl, grew_four HG.out (by omega) _ _ _ _⟩
end Go.Proofs.YtjaknioojpgkiaaGreatDoor
