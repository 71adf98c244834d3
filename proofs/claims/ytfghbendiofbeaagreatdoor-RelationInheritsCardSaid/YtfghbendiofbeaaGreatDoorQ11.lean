/- Lemmas on what the functions of the program and of the library compute: H3, T1, T2, T3, EqR, T4. The conditions stand at each. -/
import Derived.Test.YtfghbendiofbeaaGreatDoorQ10
import Derived.Test.YtfghbendiofbeaaGreatDoorQ6
import Derived.Test.YtfghbendiofbeaaGreatDoorQ2
import Derived.Test.YtfghbendiofbeaaGreatDoorProg
import Derived.Test.YtfghbendiofbeaaGreatDoorQ1
import Derived.Test.YtfghbendiofbeaaGreatDoorQ3
import Derived.Test.YtfghbendiofbeaaGreatDoorQ8
/- relation.Holders, walked. The conditions: the library's own variables hold what they must; the lists are short. -/
namespace Go.Proofs.YtfghbendiofbeaaGreatDoor
open Go.RowKit Go.Maps

theorem asks_right {a : List Auth} {l : List Rel} : asksF a l = 0 ↔ RightR a l := by
  unfold asksF
  rw [← relCheck_right]
  split
  · rename_i h; simp [h]
  · rename_i h; simp [h]
theorem right_auth {a : List Auth} {l : List Rel} (h : RightR a l) : ∀ x ∈ l, 1 ≤ x.auth ∧ x.auth ≤ 1073741824 := by
  intro x hx
  have h1 := h.2.2.1 x hx
  unfold relAlone at h1
  split at h1
  · unfold whoFault at h1
    cases ho : auFind a x.auth with
    | none => rw [ho] at h1; simp at h1
    | some y =>
      have hm : y ∈ a := List.mem_of_find?_eq_some ho
      have hi : y.id = x.auth := by simpa using List.find?_some ho
      obtain ⟨i, hi2, rfl⟩ := List.mem_iff_getElem.1 hm
      have h2 := (h.1.2.1 i hi2).1
      rw [within_t, hi] at h2
      exact h2
  · simp at h1
theorem right_wf {a : List Auth} {l : List Rel} (h : RightR a l) : ∀ x ∈ l, (Lit.int .i64 x.auth).wf = true := fun x hx => by
  have := right_auth h x hx
  exact WalkArith.wf_i64 (by omega)
def RetRow (r : List Int × Int) (w : World) (e : Ending) (w' : World) : Prop := ∃ v, e = .returned (.tuple #[v, .int .i64 r.2]) ∧ SlI w' v r.1 ∧ Grew w w'
def holdersR (a : List Auth) (l : List Rel) (u r d : Int) : List Int × Int := if orF [asksF a l, rangedF r d] ≠ 0 then ([], orF [asksF a l, rangedF r d]) else (holdersF l u r d, 0)
theorem or2_zero {p q : Int} (h : orF [p, q] = 0) : p = 0 ∧ q = 0 := by
  simp only [orF] at h
  split at h
  · rename_i h1
    split at h
    · rename_i h2; exact ⟨by simpa using h1, by simpa using h2⟩
    · rename_i h2; exact ⟨by simpa using h1, h⟩
  · rename_i h1; exact absurd h (by simpa using h1)
set_option maxHeartbeats 4000000 in
theorem rHolders (a : List Auth) (l : List Rel) (u r d : Int) (av lv : Value) (w : World) (hE : Env w) (ha : SlAu w av a) (hf : FewAu a) (hl : SlR w lv l) (hll : l.length ≤ 1000000) :
    Calls Tryz.prog 24 #[av, lv, .int .i64 u, .int .i64 r, .int .i64 d] w (RetRow (holdersR a l u r d) w) := by
  have kA := rAsks a l av lv w hE ha hf hl
  have kR := rRanged r d
  have kH : orF [asksF a l, rangedF r d] = 0 → ∀ W, Grew w W → Calls Tryz.prog 61 #[lv, .int .i64 u, .int .i64 r, .int .i64 d] W (RetSl (holdersF l u r d) W) := fun h W hW => rHoldersIn l u r d lv W (hl.mono hW) hll (right_wf (asks_right.1 (or2_zero h).1))
  unfold holdersR
  generalize asksF a l = q0 at kA kH ⊢
  generalize rangedF r d = q1 at kR kH ⊢
  generalize hz : orF [q0, q1] = z at kH ⊢
  have hfr : ∀ W : World, SlI (W.alloc (.cells #[.int .i64 q0, .int .i64 q1] 30)) (.slice (some ⟨W.heap.size, 0, none⟩) 2 2) [q0, q1] := fun W => Rd.fresh W _ 1 2 [.int .i64 q0, .int .i64 q1] rfl (by decide)
  have KO := Lib.hid (fun W => cmpOrE_any [q0, q1] _ _ (hfr W))
  rw [hz] at KO
  have KA := Lib.hid kA
  have KR := Lib.hid kR
  have KH := Lib.hid kH
  generalize holdersF l u r d = HF at KH ⊢
  obtain ⟨A1, c1, rfl, -, -, -⟩ := hl.open_
  clear kA kR kH hE ha hf hl hz hfr hll
  by_cases h0 : z = 0
  case neg =>
    have hz0 : (z != 0) = true := by simpa using h0
    rw [if_pos h0]
    clear h0
    go_enter Tryz.func24, Tryz.ntmps24
    go_wp2_with fail
    refine KA.out.mono ?_
    rintro e w1 ⟨rfl, g1⟩
    have HG1 := Lib.hid g1
    clear g1
    dsimp only
    go_wp2_with fail
    refine (KR.out _).mono ?_
    rintro e w2 ⟨rfl, rfl⟩
    dsimp only
    go_wp2_with fail
    refine (KO.out _).mono ?_
    rintro e w3 ⟨rfl, rfl⟩
    dsimp only
    go_wp2
    go_ret2
    exact ⟨_, rfl, SlI.nil _, HG1.out.alloc _⟩
  subst h0
  simp only [ne_eq, not_true_eq_false, if_false]
  go_enter Tryz.func24, Tryz.ntmps24
  go_wp2_with fail
  refine KA.out.mono ?_
  rintro e w1 ⟨rfl, g1⟩
  have HG1 := Lib.hid g1
  clear g1
  dsimp only
  go_wp2_with fail
  refine (KR.out _).mono ?_
  rintro e w2 ⟨rfl, rfl⟩
  dsimp only
  go_wp2_with fail
  refine (KO.out _).mono ?_
  rintro e w3 ⟨rfl, rfl⟩
  dsimp only
  go_wp2_with fail
  refine (KH.out (by first | rfl | trivial) _ (HG1.out.alloc _)).mono ?_
  rintro e w4 ⟨v4, rfl, hs4, g4, -⟩
  have HS4 := Lib.hid hs4
  clear hs4
  dsimp only
  go_wp2
  go_ret2
  exact ⟨_, rfl, HS4.out, (HG1.out.alloc _).trans g4⟩
end Go.Proofs.YtfghbendiofbeaaGreatDoor

/- tree: index, Fits, alone, walked. The condition: the library's own variables hold what they must. -/
namespace Go.Proofs.YtfghbendiofbeaaGreatDoor
open Go.RowKit

theorem tIndex1 (B : Nat) (id : Int) (x : BrC) (W : World) (h0 : W.cell? ⟨B, 0, none⟩ = some (.int .i64 id)) :
    Calls Tryz.prog 106 (#[x.agg] ++ #[.pointer (some ⟨B, 0, none⟩)]) W fun e w' => e = .returned (.bool (x.id == id)) ∧ Grew W w' := by
  have hB := World.block_lt_of_cell? W _ h0
  unfold BrC.agg
  go_enter Tryz.func106, Tryz.ntmps106
  go_wp2
  go_ret
  exact ⟨rfl, by first | exact (Grew.refl W).alloc _ | exact ((Grew.refl W).alloc _).drew⟩
theorem enters_tIndex1 : ∀ args w, (callFunc 106 args).run Tryz.prog w = .ok (.enter 106 args) w := enters_of Tryz.func106 (by kernel_rfl) rfl
theorem tIndex (l : List Br) (id : Int) (rv bv : Value) (w : World) (hv : SlBr w bv l) : Calls Tryz.prog 75 #[.agg #[rv, bv], .int .i64 id] w fun e w' => e = .returned (.int .i64 (brIdx l id)) ∧ Grew w w' := by
  obtain ⟨A, c, rfl, -, -, -⟩ := hv.open_
  obtain ⟨cs, h1, h2, h3⟩ := hv
  have he : brIdx l id = idxP (fun c : BrC => c.id == id) cs := (idxP_rel cs l h2 (fun i h h' => by
    have := congrArg BrC.id (h3 i h h').1
    simp only [Br.c] at this
    rw [this])).symm
  have hix := indexFuncB cs (fun c => c.id == id) _ _ enters_tIndex1 (.slice A l.length c) ((w.alloc (.cells #[rv, .slice A l.length c] 51)).alloc (.cells #[.int .i64 id] 3)) (h1.mono (((Grew.refl w).alloc _).alloc _)) (fun W x hW _ => tIndex1 (w.heap.size + 1) id x W (by
    have := new_cell (cs := [.int .i64 id]) hW 0 _ rfl
    simpa using this))
  rw [he]
  generalize idxP (fun c : BrC => c.id == id) cs = r at hix
  have HX := Lib.hid hix
  clear hix h1 h3 he
  go_enter Tryz.func75, Tryz.ntmps75
  go_wp2_with (first | (go_at_call 105; refine HX.out.mono ?_; rintro e w1 ⟨rfl, hg⟩))
  go_ret
  exact ⟨rfl, (((Grew.refl w).alloc _).alloc _).trans hg⟩
theorem tFits (p c : Int) (w : World) : Calls Tryz.prog 127 #[.int .i64 p, .int .i64 c] w fun e w' => e = .returned (.bool (fitsF p c)) ∧ w = w' := by
  unfold fitsF
  have k1 := tWithin p 1 4 w
  have k2 := tWithin c 1 4 w
  generalize within p 1 4 = q1 at k1 ⊢
  generalize within c 1 4 = q2 at k2 ⊢
  have K1 := Lib.hid k1
  have K2 := Lib.hid k2
  clear k1 k2
  cases q1 with
  | false =>
    go_enter Tryz.func127, Tryz.ntmps127
    go_wp2_with fail
    refine K1.out.mono ?_
    rintro e w1 ⟨rfl, rfl⟩
    dsimp only
    go_wp2
    go_ret
    exact ⟨rfl, rfl⟩
  | true =>
  cases q2 with
  | false =>
    go_enter Tryz.func127, Tryz.ntmps127
    go_wp2_with fail
    refine K1.out.mono ?_
    rintro e w1 ⟨rfl, rfl⟩
    dsimp only
    go_wp2_with fail
    refine K2.out.mono ?_
    rintro e w1 ⟨rfl, rfl⟩
    dsimp only
    go_wp2
    go_ret
    exact ⟨rfl, rfl⟩
  | true =>
    cases a1 : decide (p < c) <;> cases a2 : (p == 2) <;> cases a3 : (c == 2)
    all_goals
      go_enter Tryz.func127, Tryz.ntmps127
      go_wp2_with fail
      refine K1.out.mono ?_
      rintro e w1 ⟨rfl, rfl⟩
      dsimp only
      go_wp2_with fail
      refine K2.out.mono ?_
      rintro e w1 ⟨rfl, rfl⟩
      dsimp only
      go_wp2
      go_ret
      exact ⟨rfl, rfl⟩
end Go.Proofs.YtfghbendiofbeaaGreatDoor

/- tree.alone, walked. The condition: the library's own variables hold what they must. -/
namespace Go.Proofs.YtfghbendiofbeaaGreatDoor
open Go.RowKit

theorem Rd.take {α : Type} {w : World} {k : Nat} {f : α → List Value} (hk : ∀ x, (f x).length = k) (h0 : 0 < k) {A : Option Addr} {n c : Nat} {l : List α} (hv : Rd w k (.slice A n c) (l.flatMap f)) (i : Nat) (hi : i ≤ l.length) : Rd w k (.slice A i c) ((l.take i).flatMap f) := by
  obtain ⟨A', n', c', hs, hl, hn, hc, hr⟩ := hv
  cases hs
  rw [flatMap_len f k hk] at hl
  have hln : l.length = n := Nat.eq_of_mul_eq_mul_right h0 hl
  refine ⟨A, i, c, rfl, ?_, by omega, hc, fun h1 => ?_⟩
  · rw [flatMap_len f k hk, List.length_take, Nat.min_eq_left hi]
  · obtain ⟨b, off, hA, hb, hcell⟩ := hr (by omega)
    refine ⟨b, off, hA, hb, fun j u hu => hcell j u ?_⟩
    conv => lhs; rw [← List.take_append_drop i l, List.flatMap_append]
    rw [List.getElem?_append_left]
    · exact hu
    · exact (List.getElem?_eq_some_iff.1 hu).1
theorem containsFuncB (l : List BrC) (p : BrC → Bool) (g : Nat) (lb : Array Value) (eg : ∀ args w, (callFunc g args).run Tryz.prog w = .ok (.enter g args) w) (v : Value) (w : World) (hv : SlB w v l)
    (hp : ∀ W x, Grew w W → x ∈ l → Calls Tryz.prog g (#[x.agg] ++ lb) W fun e w' => e = .returned (.bool (p x)) ∧ Grew W w') :
    Calls Tryz.prog 125 #[v, .func (.func g) #[] lb] w fun e w' => e = .returned (.bool (l.any p)) ∧ Grew w w' := by
  have hi := Lib.hid (indexFuncB l p g lb eg v w hv hp)
  have hd : decide (0 ≤ idxP p l) = l.any p := idxP_any p l
  generalize idxP p l = i at hi hd
  have Hd := Lib.hid hd
  clear hv hp hd
  go_enter Tryz.func125, Tryz.ntmps125
  go_wp2_with (first | (go_at_call 105; refine hi.out.mono ?_; rintro e w1 ⟨rfl, hg⟩))
  go_ret
  exact ⟨ret_bool Hd.out, hg⟩
theorem tAlone1 (C : Nat) (m : ByteArray) (x : BrC) (W : World) (h0 : W.cell? ⟨C, 4, none⟩ = some (.string m)) :
    Calls Tryz.prog 126 (#[x.agg] ++ #[.pointer (some ⟨C, 0, none⟩)]) W fun e w' => e = .returned (.bool (x.mark.toList == m.toList)) ∧ Grew W w' := by
  have hB := World.block_lt_of_cell? W _ h0
  unfold BrC.agg
  go_enter Tryz.func126, Tryz.ntmps126
  go_wp2
  go_ret
  exact ⟨rfl, by first | exact (Grew.refl W).alloc _ | exact ((Grew.refl W).alloc _).drew⟩
theorem enters_tAlone1 : ∀ args w, (callFunc 126 args).run Tryz.prog w = .ok (.enter 126 args) w := enters_of Tryz.func126 (by kernel_rfl) rfl
theorem any_rel {α β : Type} {p : α → Bool} {q : β → Bool} (l : List α) (m : List β) (h : l.length = m.length) (hr : ∀ i (h : i < l.length) (h' : i < m.length), p l[i] = q m[i]) : l.any p = m.any q := by
  rw [← idxP_any, ← idxP_any, idxP_rel l m h hr]
/-- Whether a mark is borne before the place i. -/
theorem tUsed (l : List Br) (i : Nat) (hi : i ≤ l.length) (A : Option Addr) (c C : Nat) (m : ByteArray) (w W : World) (hv : SlBr w (.slice A l.length c) l) (hW : Grew w W) (h0 : W.cell? ⟨C, 4, none⟩ = some (.string m)) :
    Calls Tryz.prog 125 #[.slice A i c, .func (.func 126) #[] #[.pointer (some ⟨C, 0, none⟩)]] W fun e w' => e = .returned (.bool ((l.take i).any fun b => b.mark.toList == m.toList)) ∧ Grew W w' := by
  obtain ⟨cs, h1, h2, h3⟩ := hv
  have he : ((l.take i).any fun b => b.mark.toList == m.toList) = ((cs.take i).any fun b => b.mark.toList == m.toList) := (any_rel (cs.take i) (l.take i) (by simp [h2]) (fun j h h' => by
    have hj : j < cs.length := by simp at h; omega
    have hj' : j < l.length := by simp at h'; omega
    have := congrArg BrC.mark (h3 j hj hj').1
    simp only [Br.c] at this
    simp only [List.getElem_take]
    rw [this])).symm
  rw [he]
  exact containsFuncB (cs.take i) (fun b => b.mark.toList == m.toList) _ _ enters_tAlone1 (.slice A i c) W (Rd.take (k := 6) (f := BrC.cells) (fun _ => rfl) (by omega) (show Rd W 6 _ (cs.flatMap BrC.cells) from h1.mono hW) i (by omega)) (fun W' x hW' _ => tAlone1 C m x W' ((hW'.cell (World.block_lt_of_cell? W _ h0)).trans h0))
/-- Cells of the two blocks that were made last, later. -/
theorem newer_cell {w W : World} {cs ds : List Value} {t u : TypeId} (h : Grew ((w.alloc (.cells ds.toArray u)).alloc (.cells cs.toArray t)) W) (j : Nat) (v : Value) (hj : cs[j]? = some v) : W.cell? ⟨w.heap.size + 1, j, none⟩ = some v := by
  have := new_cell h j v hj
  simpa using this
theorem tree_cell {w W : World} {cs ds : List Value} {t u : TypeId} (h : Grew ((w.alloc (.cells ds.toArray u)).alloc (.cells cs.toArray t)) W) (j : Nat) (v : Value) (hj : ds[j]? = some v) : W.cell? ⟨w.heap.size, j, none⟩ = some v :=
  new_cell (((Grew.refl _).alloc _).trans h) j v hj
set_option maxHeartbeats 4000000 in
theorem tAlone (l : List Br) (i : Nat) (hi : i < l.length) (rv bv : Value) (w : World) (hE : Env w) (hv : SlBr w bv l) :
    Calls Tryz.prog 96 #[.agg #[rv, bv], .int .i64 i] w (RetIff (BrAlone l i hi) w) := by
  have HV := Lib.hid hv
  have HE := Lib.hid hE
  obtain ⟨A, c, rfl, hlc, hc, hr⟩ := hv.open_
  unfold maxLen at hc
  obtain ⟨b, off, rfl, hbk, hcell⟩ := hr (by omega)
  obtain ⟨kv, -, hcl⟩ := hcell i hi
  obtain ⟨c0, c1, c2, c3, c4, -⟩ := hcl w (Grew.refl w)
  have HD : RowKit.Hid (BrAlone l i hi ↔ within l[i].id 1 1073741824 = true ∧ within l[i].level 1 4 = true ∧ (0 < i → (l[i - 1]'(by omega)).id < l[i].id) ∧ nameF l[i].title.data.toList = true ∧ markOk l i l[i].mark) := Iff.rfl
  have HPREV : RowKit.Hid (0 < i → ∀ W, Grew w W → W.cell? ⟨b, off + (i - 1) * 6, none⟩ = some (.int .i64 (l[i - 1]'(by omega)).id)) := fun h W hW => by
    obtain ⟨_, _, hq⟩ := hcell (i - 1) (by omega)
    exact (hq W hW).1
  have hiz : (i : Int) < (l.length : Int) := by omega
  have h0z : (0 : Int) ≤ (i : Int) := by omega
  have hic : (i : Int) ≤ (c : Int) := by omega
  generalize BrAlone l i hi = PA at HD ⊢
  generalize hp : (0 < i → (l[i - 1]'(by omega)).id < l[i].id) = PP at HD
  have hy : ∃ y, RowKit.Hid (l[i] = y) := ⟨_, rfl⟩
  obtain ⟨y, hy⟩ := hy
  rw [hy.out] at c0 c1 c2 c3 c4 HD hp
  obtain ⟨yi, yp, yl, yt, ym, yk⟩ := y
  dsimp only at c0 c1 c2 c3 c4 HD hp
  have HPP := Lib.hid hp
  have kw1 := tWithin yi 1 1073741824
  have kw2 := tWithin yl 1 4
  have kn := fun W (hW : Grew w W) => tName yt W (HE.out.mono hW)
  have km := tMarks ym
  have ku := fun W C (hW : Grew w W) h0 => tUsed l i (by omega) (some ⟨b, off, none⟩) c C ym w W HV.out hW h0
  have HMK : RowKit.Hid (markOk l i ym ↔ (ym.toList.isEmpty = false → markF ym.data.toList = true ∧ (l.take i).any (fun b => b.mark.toList == ym.toList) = false)) := Iff.rfl
  generalize markOk l i ym = PM at HD HMK
  generalize within yi 1 1073741824 = q1 at kw1 HD
  generalize within yl 1 4 = q2 at kw2 HD
  generalize nameF yt.data.toList = q3 at kn HD
  generalize markF ym.data.toList = q4 at km HMK
  generalize (l.take i).any (fun b => b.mark.toList == ym.toList) = q5 at ku HMK
  have KW1 := Lib.hid kw1
  have KW2 := Lib.hid kw2
  have KN := Lib.hid kn
  have KM := Lib.hid km
  have KU := Lib.hid ku
  clear hp kw1 kw2 kn km ku hcell hcl hr hv hE
  go_enter Tryz.func96, Tryz.ntmps96
  go_wp2_with fail
  refine (KW1.out _).mono ?_
  rintro e w1 ⟨rfl, rfl⟩
  have GB : Grew w ((w.alloc (.cells [rv, .slice (some ⟨b, off, none⟩) l.length c].toArray 51)).alloc (.cells [.int .i64 yi, .int .i64 yp, .int .i64 yl, .string yt, .string ym].toArray 57)) := ((Grew.refl w).alloc _).alloc _
  have HGB := Lib.hid GB
  clear GB
  cases q1 with
  | false =>
    have Hn : RowKit.Hid (¬ PA) := fun h => by have := (HD.out.1 h).1; cases this
    dsimp only
    go_wp2
    go_ret
    exact RetIff.no 2 (by decide) Hn.out HGB.out
  | true =>
  dsimp only
  go_wp2_with fail
  refine (KW2.out _).mono ?_
  rintro e w1 ⟨rfl, rfl⟩
  cases q2 with
  | false =>
    have Hn : RowKit.Hid (¬ PA) := fun h => by have := (HD.out.1 h).2.1; cases this
    dsimp only
    go_wp2
    go_ret
    exact RetIff.no 2 (by decide) Hn.out HGB.out
  | true =>
  dsimp only
  rcases Nat.eq_zero_or_pos i with hi0 | hipos
  · have HPREVOK : RowKit.Hid PP := HPP.out ▸ (fun h => absurd h (by omega))
    subst hi0
    go_wp2
    go_quiet (fail)
    go_wp2_with fail
    refine (KN.out _ (Grew.drewN HGB.out _)).mono ?_
    rintro e w2 ⟨rfl, g2⟩
    have HG2 := Lib.hid ((Grew.drewN (Grew.refl _) _).trans g2)
    have HW2 := Lib.hid ((Grew.drewN HGB.out _).trans g2)
    have m4 := newer_cell HG2.out 4 _ rfl
    have t1 := tree_cell HG2.out 1 _ rfl
    clear g2
    dsimp only
    cases q3 with
    | false =>
      have Hn : RowKit.Hid (¬ PA) := fun h => by have := (HD.out.1 h).2.2.2.1; cases this
      go_wp2
      go_ret
      exact RetIff.no 4 (by decide) Hn.out HW2.out
    | true =>
    cases he : ym.toList.isEmpty with
    | true =>
      have Hy : RowKit.Hid PA := HD.out.2 ⟨by first | rfl | trivial, by first | rfl | trivial, HPREVOK.out, by first | rfl | trivial, HMK.out.2 (fun h => by rw [he] at h; cases h)⟩
      have hee : ym.toList = [] := List.isEmpty_iff.1 he
      go_wp2
      go_ret
      exact RetIff.yes Hy.out HW2.out
    | false =>
      have hem : (!ym.toList.isEmpty) = true := by simp [he]
      have hne : ¬ ym.toList = [] := fun h => by rw [h] at he; cases he
      have HMI : RowKit.Hid (PM ↔ q4 = true ∧ q5 = false) := ⟨fun h => HMK.out.1 h he, fun h => HMK.out.2 (fun _ => h)⟩
      go_wp2_with fail
      refine (KM.out _).mono ?_
      rintro e w3 ⟨rfl, g3⟩
      have HG3 := Lib.hid (HG2.out.trans g3)
      have HW3 := Lib.hid (HW2.out.trans g3)
      have n4 := newer_cell HG3.out 4 _ rfl
      have u1 := tree_cell HG3.out 1 _ rfl
      clear g3 m4 t1
      dsimp only
      cases q4 with
      | false =>
        have Hn : RowKit.Hid (¬ PA) := fun h => by have := (HMI.out.1 (HD.out.1 h).2.2.2.2).1; cases this
        go_wp2
        go_ret
        exact RetIff.no 1 (by decide) Hn.out HW3.out
      | true =>
      go_wp2_with fail
      refine (KU.out _ _ HW3.out n4).mono ?_
      rintro e w4 ⟨rfl, g4⟩
      have HW4 := Lib.hid (HW3.out.trans g4)
      clear g4
      dsimp only
      cases q5 with
      | true =>
        have Hn : RowKit.Hid (¬ PA) := fun h => by have := (HMI.out.1 (HD.out.1 h).2.2.2.2).2; cases this
        go_wp2
        go_ret
        exact RetIff.no 19 (by decide) Hn.out HW4.out
      | false =>
        have Hy : RowKit.Hid PA := HD.out.2 ⟨by first | rfl | trivial, by first | rfl | trivial, HPREVOK.out, by first | rfl | trivial, HMI.out.2 ⟨by first | rfl | trivial, by first | rfl | trivial⟩⟩
        go_wp2
        go_ret
        exact RetIff.yes Hy.out HW4.out
  · have hkz : (0 : Int) < (i : Int) := by omega
    have hki : (0 : Int) ≤ (i : Int) - 1 := by omega
    have hki2 : (i : Int) - 1 < (l.length : Int) := by omega
    have hki3 : (1 : Int) ≤ (i : Int) := by omega
    have hkt : ((i : Int) - 1).toNat = i - 1 := by omega
    have d0 := HPREV.out hipos _ HGB.out
    have hpv : PP ↔ (l[i - 1]'(by omega)).id < yi := by rw [← HPP.out]; exact ⟨fun h => h hipos, fun h _ => h⟩
    generalize (l[i - 1]'(by omega)).id = zi at d0 hpv
    have HPV := Lib.hid hpv
    clear hpv
    have hwr : IntKind.i64.wrap ((i : Int) - 1) = (i : Int) - 1 := IntWalk.i64_in _ (by omega)
    by_cases r : yi ≤ zi
    · have Hn : RowKit.Hid (¬ PA) := fun h => by have := HPV.out.1 (HD.out.1 h).2.2.1; omega
      go_wp2
      go_quiet (fail)
      clear hwr
      go_wp2
      go_ret
      exact RetIff.no 5 (by decide) Hn.out (HGB.out.drewN _)
    have r' : decide (yi ≤ zi) = false := by simpa using r
    have HPREVOK : RowKit.Hid PP := HPV.out.2 (by omega)
    clear r
    go_wp2
    go_quiet (fail)
    clear hwr
    go_wp2_with fail
    refine (KN.out _ (Grew.drewN HGB.out _)).mono ?_
    rintro e w2 ⟨rfl, g2⟩
    have HG2 := Lib.hid ((Grew.drewN (Grew.refl _) _).trans g2)
    have HW2 := Lib.hid ((Grew.drewN HGB.out _).trans g2)
    have m4 := newer_cell HG2.out 4 _ rfl
    have t1 := tree_cell HG2.out 1 _ rfl
    clear g2
    dsimp only
    cases q3 with
    | false =>
      have Hn : RowKit.Hid (¬ PA) := fun h => by have := (HD.out.1 h).2.2.2.1; cases this
      go_wp2
      go_ret
      exact RetIff.no 4 (by decide) Hn.out HW2.out
    | true =>
    cases he : ym.toList.isEmpty with
    | true =>
      have Hy : RowKit.Hid PA := HD.out.2 ⟨by first | rfl | trivial, by first | rfl | trivial, HPREVOK.out, by first | rfl | trivial, HMK.out.2 (fun h => by rw [he] at h; cases h)⟩
      have hee : ym.toList = [] := List.isEmpty_iff.1 he
      go_wp2
      go_ret
      exact RetIff.yes Hy.out HW2.out
    | false =>
      have hem : (!ym.toList.isEmpty) = true := by simp [he]
      have hne : ¬ ym.toList = [] := fun h => by rw [h] at he; cases he
      have HMI : RowKit.Hid (PM ↔ q4 = true ∧ q5 = false) := ⟨fun h => HMK.out.1 h he, fun h => HMK.out.2 (fun _ => h)⟩
      go_wp2_with fail
      refine (KM.out _).mono ?_
      rintro e w3 ⟨rfl, g3⟩
      have HG3 := Lib.hid (HG2.out.trans g3)
      have HW3 := Lib.hid (HW2.out.trans g3)
      have n4 := newer_cell HG3.out 4 _ rfl
      have u1 := tree_cell HG3.out 1 _ rfl
      clear g3 m4 t1
      dsimp only
      cases q4 with
      | false =>
        have Hn : RowKit.Hid (¬ PA) := fun h => by have := (HMI.out.1 (HD.out.1 h).2.2.2.2).1; cases this
        go_wp2
        go_ret
        exact RetIff.no 1 (by decide) Hn.out HW3.out
      | true =>
      go_wp2_with fail
      refine (KU.out _ _ HW3.out n4).mono ?_
      rintro e w4 ⟨rfl, g4⟩
      have HW4 := Lib.hid (HW3.out.trans g4)
      clear g4
      dsimp only
      cases q5 with
      | true =>
        have Hn : RowKit.Hid (¬ PA) := fun h => by have := (HMI.out.1 (HD.out.1 h).2.2.2.2).2; cases this
        go_wp2
        go_ret
        exact RetIff.no 19 (by decide) Hn.out HW4.out
      | false =>
        have Hy : RowKit.Hid PA := HD.out.2 ⟨by first | rfl | trivial, by first | rfl | trivial, HPREVOK.out, by first | rfl | trivial, HMI.out.2 ⟨by first | rfl | trivial, by first | rfl | trivial⟩⟩
        go_wp2
        go_ret
        exact RetIff.yes Hy.out HW4.out
end Go.Proofs.YtfghbendiofbeaaGreatDoor

/- tree.placed, walked. No condition. -/
namespace Go.Proofs.YtfghbendiofbeaaGreatDoor
open Go.RowKit

set_option maxHeartbeats 4000000 in
theorem tPlaced (l : List Br) (i : Nat) (hi : i < l.length) (rv bv : Value) (w : World) (hv : SlBr w bv l) :
    Calls Tryz.prog 97 #[.agg #[rv, bv], .int .i64 i] w (RetIff (BrPlaced l l[i]) w) := by
  have HV := Lib.hid hv
  obtain ⟨A, c, rfl, hlc, hc, hr⟩ := hv.open_
  unfold maxLen at hc
  obtain ⟨b, off, rfl, hbk, hcell⟩ := hr (by omega)
  have HCELL := Lib.hid hcell
  obtain ⟨kv, -, hcl⟩ := hcell i hi
  obtain ⟨c0, c1, c2, c3, c4, -⟩ := hcl w (Grew.refl w)
  have HD : RowKit.Hid (BrPlaced l l[i] ↔ if l[i].parent = 0 then l[i].level = 1 else ∃ p, brFind l l[i].parent = some p ∧ l[i].level ≠ 1 ∧ fitsF p.level l[i].level = true) := Iff.rfl
  have hiz : (i : Int) < (l.length : Int) := by omega
  have h0z : (0 : Int) ≤ (i : Int) := by omega
  generalize BrPlaced l l[i] = PA at HD ⊢
  generalize l[i] = y at c0 c1 c2 c3 c4 HD
  obtain ⟨yi, yp, yl, yt, ym, yk⟩ := y
  dsimp only at c0 c1 c2 c3 c4 HD
  have kI := fun W (hW : Grew w W) => tIndex l yp rv (.slice (some ⟨b, off, none⟩) l.length c) W (HV.out.mono hW)
  have GB : Grew w ((w.alloc (.cells [rv, .slice (some ⟨b, off, none⟩) l.length c].toArray 51)).alloc (.cells [.int .i64 yi, .int .i64 yp, .int .i64 yl, .string yt, .string ym].toArray 57)) := ((Grew.refl w).alloc _).alloc _
  have HGB := Lib.hid GB
  clear hcell hcl hr hv GB
  by_cases hp : yp = 0
  · subst hp
    have HDI : RowKit.Hid (PA ↔ yl = 1) := by
      show _ ↔ _
      rw [HD.out, if_pos rfl]
    clear kI
    by_cases h1 : yl = 1
    · subst h1
      have Hy : RowKit.Hid PA := HDI.out.2 rfl
      go_enter Tryz.func97, Tryz.ntmps97
      go_wp2
      go_ret
      exact RetIff.yes Hy.out HGB.out
    · have h1' : (yl != 1) = true := by simpa using h1
      have Hn : RowKit.Hid (¬ PA) := fun h => h1 (HDI.out.1 h)
      clear h1
      go_enter Tryz.func97, Tryz.ntmps97
      go_wp2
      go_ret
      exact RetIff.no 18 (by decide) Hn.out HGB.out
  have hp' : (yp == 0) = false := by simpa using hp
  have HDI : RowKit.Hid (PA ↔ ∃ p, brFind l yp = some p ∧ yl ≠ 1 ∧ fitsF p.level yl = true) := by
    show _ ↔ _
    rw [HD.out, if_neg hp]
  clear HD hp
  cases ho : brFind l yp with
  | none =>
    rw [brIdx_none ho] at kI
    have KI := Lib.hid kI
    have Hn : RowKit.Hid (¬ PA) := fun h => by
      obtain ⟨p, hpp, _⟩ := HDI.out.1 h
      rw [ho] at hpp
      cases hpp
    clear kI ho
    go_enter Tryz.func97, Tryz.ntmps97
    go_wp2_with fail
    refine (KI.out _ HGB.out).mono ?_
    rintro e w1 ⟨rfl, g1⟩
    have HW1 := Lib.hid (HGB.out.trans g1)
    clear g1
    dsimp only
    go_wp2
    go_ret
    exact RetIff.no 7 (by decide) Hn.out HW1.out
  | some p =>
    obtain ⟨k, hk, ek, e⟩ := brIdx_some ho
    rw [ek] at kI
    have HDJ : RowKit.Hid (PA ↔ yl ≠ 1 ∧ fitsF p.level yl = true) := by
      show _ ↔ _
      rw [HDI.out, ho]
      simp
    subst e
    have KI := Lib.hid kI
    have HF := Lib.hid (tFits l[k].level yl)
    have HCK := Lib.hid (HCELL.out k hk)
    generalize fitsF l[k].level yl = ff at HDJ HF
    generalize hlv : l[k].level = pl at HF
    have HLV := Lib.hid hlv
    have hkz : (k : Int) < (l.length : Int) := by omega
    have h0k : (0 : Int) ≤ (k : Int) := by omega
    have hkn : ¬ (k : Int) < 0 := by omega
    clear kI ho ek hlv HDI
    go_enter Tryz.func97, Tryz.ntmps97
    go_wp2_with fail
    refine (KI.out _ HGB.out).mono ?_
    rintro e w1 ⟨rfl, g1⟩
    have HW1 := Lib.hid (HGB.out.trans g1)
    have f2 := Gr.cell (newer_cell g1 2 _ rfl)
    have t1 := Gr.cell (tree_cell g1 1 _ rfl)
    obtain ⟨_, _, hq⟩ := HCK.out
    obtain ⟨-, -, d2, -, -, -⟩ := hq w1 HW1.out
    rw [HLV.out] at d2
    have d2' := Gr.cell d2
    clear g1 hq d2 HCK
    dsimp only
    by_cases h1 : yl = 1
    · subst h1
      have Hn : RowKit.Hid (¬ PA) := fun h => (HDJ.out.1 h).1 rfl
      go_wp2
      refine region_gr w1 (by kernel_rfl) (by kernel_rfl) (Grew.refl _) ?_
      repeat (first | go_big_quiet_step (fail) | quiet_step (fail))
      refine wpQuiet_nil ?_
      intro _ hw'
      obtain ⟨wi, rfl⟩ := hw'
      have HWI := Lib.hid wi.g
      clear f2 t1 d2'
      go_wp2
      go_ret
      exact RetIff.no 18 (by decide) Hn.out (HW1.out.trans HWI.out)
    · have h1' : (yl == 1) = false := by simpa using h1
      have Hy1 := Lib.hid h1
      clear h1
      cases ff with
      | false =>
        have Hn : RowKit.Hid (¬ PA) := fun h => by have := (HDJ.out.1 h).2; cases this
        go_wp2
        refine region_gr w1 (by kernel_rfl) (by kernel_rfl) (Grew.refl _) ?_
        repeat (first | go_big_quiet_step ((exact Gr.same _ (HF.out _))) | quiet_step ((exact Gr.same _ (HF.out _))))
        refine wpQuiet_nil ?_
        intro _ hw'
        obtain ⟨wi, rfl⟩ := hw'
        have HWI := Lib.hid wi.g
        clear f2 t1 d2'
        go_wp2
        go_ret
        exact RetIff.no 18 (by decide) Hn.out (HW1.out.trans HWI.out)
      | true =>
        have Hy : RowKit.Hid PA := HDJ.out.2 ⟨Hy1.out, by first | rfl | trivial⟩
        go_wp2
        refine region_gr w1 (by kernel_rfl) (by kernel_rfl) (Grew.refl _) ?_
        repeat (first | go_big_quiet_step ((exact Gr.same _ (HF.out _))) | quiet_step ((exact Gr.same _ (HF.out _))))
        refine wpQuiet_nil ?_
        intro _ hw'
        obtain ⟨wi, rfl⟩ := hw'
        have HWI := Lib.hid wi.g
        clear f2 t1 d2'
        go_wp2
        go_ret
        exact RetIff.yes Hy.out (HW1.out.trans HWI.out)
end Go.Proofs.YtfghbendiofbeaaGreatDoor

/- slices.Equal at numbers. No condition. -/
namespace Go.Proofs.YtfghbendiofbeaaGreatDoor
open Go.RowKit

set_option maxHeartbeats 2000000 in
/-- slices.Equal at Int. -/
theorem equalI (l m : List Int) (v u : Value) (w : World) (hv : SlI w v l) (hu : SlI w u m) :
    Calls Tryz.prog 28 #[v, u] w fun e w' => e = .returned (.bool (decide (l = m))) ∧ Grew w w' := by
  obtain ⟨A, c, rfl, hlc, hc, hr⟩ := hv.open_
  obtain ⟨A', c', rfl, hlc', hc', hr'⟩ := hu.open_
  unfold maxLen at hc hc'
  have HR := Lib.hid hr
  have HR' := Lib.hid hr'
  clear hr hr' hv hu
  by_cases hl : l.length = m.length
  case neg =>
    have hd : decide (l = m) = false := by rw [decide_eq_false_iff_not]; exact fun h => hl (by rw [h])
    rw [hd]
    have hne : ((l.length : Int) != (m.length : Int)) = true := by rw [bne_iff_ne]; omega
    clear hl hd
    go_enter Tryz.func28, Tryz.ntmps28
    go_wp2
    go_ret
    exact ⟨rfl, Grew.refl w⟩
  have hne : ((l.length : Int) != (m.length : Int)) = false := by rw [bne_eq_false_iff_eq]; omega
  generalize hD : decide (l = m) = D
  have HD := Lib.hid hD
  have HL := Lib.hid hl
  clear hD hl
  go_enter Tryz.func28, Tryz.ntmps28
  go_wp2
  go_loopg [5, 13] l.length (fun gg _ s wr => ∃ kk : Nat, kk ≤ l.length ∧ l.length - kk ≤ gg ∧ s = .int .i64 kk ∧ Aside (Grew w wr) ∧ Aside (l.take kk = m.take kk))
  case atStart => exact ⟨0, Nat.zero_le _, by omega, rfl, Grew.refl w, rfl⟩
  case round =>
    obtain ⟨kk, hkk, hg, rfl, BW, M⟩ := hrel
    by_cases hlt : kk < l.length
    · have hlt2 : kk < m.length := by have := HL.out; omega
      have hltz : (kk : Int) < (l.length : Int) := by omega
      have hltz2 : (kk : Int) < (m.length : Int) := by omega
      obtain ⟨b, off, rfl, hb, hcell⟩ := HR.out (by omega)
      obtain ⟨b', off', rfl, hb', hcell'⟩ := HR'.out (by omega)
      obtain c0 := hcell wr BW.out kk hlt
      obtain d0 := hcell' wr BW.out kk hlt2
      clear hcell hcell'
      have Hstep : RowKit.Hid (l[kk] = m[kk] → l.take (kk + 1) = m.take (kk + 1)) := fun h => by rw [List.take_succ_eq_append_getElem hlt, List.take_succ_eq_append_getElem hlt2, M.out, h]
      have Hbad : RowKit.Hid (l[kk] ≠ m[kk] → D = false) := fun h => by
        rw [← HD.out, decide_eq_false_iff_not]
        exact fun e => h (by simp [e])
      generalize l[kk] = x at c0 Hstep Hbad
      generalize m[kk] = y at d0 Hstep Hbad
      by_cases hxy : x = y
      · have Hs := Lib.hid (Hstep.out hxy)
        have hq1 : (x == y) = true := by rw [hxy]; simp
        clear hxy Hstep Hbad
        go_wp2
        go_quiet (fail)
        go_wp2
        go_roundg (l.length - (kk + 1))
        case measure => omega
        case rel => exact ⟨kk + 1, by omega, by omega, by go_num, (show Aside _ from BW.out.drewN _), (show Aside _ from Hs.out)⟩
      · have Hs := Lib.hid (Hbad.out hxy)
        have hq1 : (x == y) = false := by simpa using hxy
        clear hxy Hstep Hbad
        go_wp2
        go_quiet (fail)
        go_wp2
        go_ret
        exact ⟨ret_bool Hs.out.symm, BW.out.drewN _⟩
    · have hltz : ¬ (kk : Int) < (l.length : Int) := by omega
      have Hs : RowKit.Hid (D = true) := by
        have h := M.out
        rw [List.take_of_length_le (by omega), List.take_of_length_le (by have := HL.out; omega)] at h
        show D = true
        rw [← HD.out, decide_eq_true_iff]
        exact h
      go_wp2
      go_ret
      exact ⟨ret_bool Hs.out.symm, BW.out⟩

end Go.Proofs.YtfghbendiofbeaaGreatDoor

/- tree: just, the check of the children, walked. The condition: the lists are short. -/
namespace Go.Proofs.YtfghbendiofbeaaGreatDoor
open Go.RowKit

theorem take_kids (l : List Br) (id : Int) (k : Nat) (hk : k < l.length) : kidsOf (l.take (k + 1)) id = kidsOf (l.take k) id ++ (if l[k].parent == id then [l[k].id] else []) := by
  unfold kidsOf
  rw [List.take_succ_eq_append_getElem hk, List.filter_append, List.map_append]
  congr 1
  by_cases h : (l[k].parent == id) = true
  · simp [h]
  · simp [h]
theorem kids_len (l : List Br) (id : Int) (k : Nat) : (kidsOf (l.take k) id).length ≤ l.length := by
  unfold kidsOf
  rw [List.length_map]
  exact Nat.le_trans (List.length_filter_le _ _) (by rw [List.length_take]; omega)
set_option maxRecDepth 100000 in
set_option maxHeartbeats 4000000 in
theorem tJust (l : List Br) (id : Int) (ks : List Int) (rv bv kv : Value) (w : World) (hv : SlBr w bv l) (hk : SlI w kv ks) (hl : l.length ≤ 1000000) (hkl : ks.length ≤ 1000000) :
    Calls Tryz.prog 95 #[.agg #[rv, bv], .int .i64 id, kv] w fun e w' => e = .returned (.bool (decide (sortI ks = kidsOf l id))) ∧ Grew w w' := by
  have HK := Lib.hid hk
  obtain ⟨A, c, rfl, hlc, hc, hr⟩ := hv.open_
  have HR := Lib.hid hr
  obtain ⟨Ak, ck, rfl, -, -, -⟩ := hk.open_
  obtain ⟨i0, hi, hz0, hz1, hz2⟩ := info_parts cinfoI
  clear hv hr hk hc hlc
  generalize hD : decide (sortI ks = kidsOf l id) = D
  have HD := Lib.hid hD
  clear hD
  go_enter Tryz.func95, Tryz.ntmps95
  go_wp2
  go_loopg [7, 13] l.length (fun gg s7 s13 wr => ∃ k : Nat, k ≤ l.length ∧ l.length - k ≤ gg ∧ s13 = .int .i64 k ∧ Aside (wr.ownsRow w.heap.size 3 1 s7 (kidsOf (l.take k) id).length ((kidsOf (l.take k) id).flatMap oneI)) ∧ Aside (Grew w wr))
  case atStart => exact ⟨0, by omega, by omega, rfl, (show Aside _ from World.ownsRow_nil _ _ _ _), (show Aside _ from (Grew.refl w).alloc _)⟩
  case round =>
    obtain ⟨k, hkk, hgk, rfl, OW, BW⟩ := hrel
    by_cases hlt : k < l.length
    case neg =>
      have hltz : ¬ (k : Int) < (l.length : Int) := by omega
      have hT : l.take k = l := List.take_of_length_le (by omega)
      have HS := Lib.hid (show SlI wr _ (kidsOf (l.take k) id) from Rd.of_own OW.out)
      rw [hT] at HS
      clear hT OW
      go_wp2_with fail
      refine (valuesI_any Ak ks.length ck wr).mono ?_
      rintro e w1 ⟨rfl, hw1⟩
      have hg1 : Grew wr w1 := by rw [← hw1]; exact (Grew.refl wr).alloc _
      have hc1 : w1.cell? ⟨wr.heap.size, 0, none⟩ = some (.slice Ak ks.length ck) := by rw [← hw1]; simp
      have KS := Lib.hid (sortedI_any (.slice Ak ks.length ck) ks hkl wr.heap.size w1 w (World.block_lt_of_cell? w1 _ hc1) (BW.out.trans hg1) hc1 HK.out)
      have HS1 := Lib.hid (HS.out.mono hg1)
      have HW1 := Lib.hid (BW.out.trans hg1)
      clear hw1 hg1 hc1 HS
      dsimp only
      go_wp2_with fail
      refine KS.out.mono ?_
      rintro e w2 ⟨v2, rfl, hs2, g2⟩
      have HS2 := Lib.hid hs2
      have HS12 := Lib.hid (HS1.out.mono g2)
      have HW2 := Lib.hid (HW1.out.trans g2)
      clear hs2 g2 KS HS1
      dsimp only
      go_wp2_with fail
      refine (equalI _ _ _ _ _ HS2.out HS12.out).mono ?_
      rintro e w3 ⟨rfl, g3⟩
      rw [HD.out]
      dsimp only
      go_wp2
      go_ret
      exact ⟨rfl, HW2.out.trans g3⟩
    have hltz : (k : Int) < (l.length : Int) := by omega
    have h0z : (0 : Int) ≤ (k : Int) := by omega
    obtain ⟨b, off, rfl, hb, hcell⟩ := HR.out (by omega)
    obtain ⟨kvv, hkv, hcl⟩ := hcell k hlt
    obtain ⟨c0, c1, c2, c3, c4, c5⟩ := hcl wr BW.out
    have HT := Lib.hid (take_kids l id k hlt)
    have hlen := kids_len l id k
    obtain ⟨Az, cz, rfl, -, -, -⟩ := hkv.open_
    clear hcell hcl hkv
    generalize l[k] = y at c0 c1 c2 c3 c4 c5 HT
    obtain ⟨yi, yp, yl, yt, ym, yk⟩ := y
    dsimp only at c0 c1 c2 c3 c4 c5 HT
    cases a1 : (yp == id) with
    | false =>
      rw [a1] at HT
      go_wp2
      go_roundg (l.length - (k + 1))
      case measure => omega
      case rel =>
        refine ⟨k + 1, by omega, by omega, by go_num, ?_, (show Aside _ from BW.out.alloc _)⟩
        have := HT.out
        simp only [Bool.false_eq_true, if_false, List.append_nil] at this
        rw [this]
        exact (show Aside _ from OW.out.alloc _)
    | true =>
      rw [a1] at HT
      go_wp2_with (at_builtin; refine app1H rfl _ _ 43 rfl w 3 i0 (.int .i64 0) 1 8 Tryz.underlying43 hi hz0 hz1 hz2 rfl (by omega) _ _ _ (by rfl) (wr.alloc (.cells #[.int .i64 yi, .int .i64 yp, .int .i64 yl, .string yt, .string ym, .slice Az yk.length cz] 74)) (OW.out.alloc _) (BW.out.alloc _) (wr.heap.size + 1) (by simp) [.int .i64 yi] (by rfl) rfl rfl (by unfold maxLen; omega) (by omega) ?_; intro v8 w8 hown8 hg8)
      have OW8 : Aside _ := hown8
      have BW8 : Aside _ := hg8
      clear hown8 hg8
      go_wp2
      go_roundg (l.length - (k + 1))
      case measure => omega
      case rel =>
        refine ⟨k + 1, by omega, by omega, by go_num, ?_, BW8⟩
        have := HT.out
        simp only [if_true] at this
        rw [this, List.flatMap_append, List.length_append]
        exact OW8
end Go.Proofs.YtfghbendiofbeaaGreatDoor
