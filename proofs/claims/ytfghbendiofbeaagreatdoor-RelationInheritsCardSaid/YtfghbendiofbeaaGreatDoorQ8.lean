/- Lemmas on what the functions of the program and of the library compute: A4, A5, SlR, A6, A7. The conditions stand at each. -/
import Derived.Test.YtfghbendiofbeaaGreatDoorQ7
import Derived.Test.YtfghbendiofbeaaGreatDoorQ2
import Derived.Deep.RegionHeld3
import Derived.Test.YtfghbendiofbeaaGreatDoorProg
import Derived.Test.YtfghbendiofbeaaGreatDoorQ1
import Derived.Lib.LazyBuf
/- authority: index, successors, Check, walked. The condition: the library's own variables hold what they must. -/
namespace Go.Proofs.YtfghbendiofbeaaGreatDoor
open Go.RowKit

theorem containsFuncI (l : List Int) (p : Int → Bool) (g : Nat) (lb : Array Value) (eg : ∀ args w, (callFunc g args).run Tryz.prog w = .ok (.enter g args) w) (v : Value) (w : World) (hv : SlI w v l)
    (hp : ∀ W x, Grew w W → x ∈ l → Calls Tryz.prog g (#[.int .i64 x] ++ lb) W fun e w' => e = .returned (.bool (p x)) ∧ Grew W w') :
    Calls Tryz.prog 138 #[v, .func (.func g) #[] lb] w fun e w' => e = .returned (.bool (l.any p)) ∧ Grew w w' := by
  have hi := Lib.hid (indexFuncI l p g lb eg v w hv hp)
  have hd : decide (0 ≤ idxP p l) = l.any p := idxP_any p l
  generalize idxP p l = i at hi hd
  have Hd := Lib.hid hd
  clear hv hp hd
  go_enter Tryz.func138, Tryz.ntmps138
  go_wp2_with (first | (go_at_call 76; refine hi.out.mono ?_; rintro e w1 ⟨rfl, hg⟩))
  go_ret
  exact ⟨ret_bool Hd.out, hg⟩
theorem auIndex1 (B : Nat) (id : Int) (x : AuC) (W : World) (hB : B < W.heap.size) (h0 : W.cell? ⟨B, 0, none⟩ = some (.int .i64 id)) :
    Calls Tryz.prog 117 (#[x.agg] ++ #[.pointer (some ⟨B, 0, none⟩)]) W fun e w' => e = .returned (.bool (x.id == id)) ∧ Grew W w' := by
  unfold AuC.agg
  go_enter Tryz.func117, Tryz.ntmps117
  go_wp2
  go_ret
  exact ⟨rfl, by first | exact (Grew.refl W).alloc _ | exact ((Grew.refl W).alloc _).drew⟩
theorem enters_auIndex1 : ∀ args w, (callFunc 117 args).run Tryz.prog w = .ok (.enter 117 args) w := enters_of Tryz.func117 (by kernel_rfl) rfl
def auIdx (l : List Auth) (id : Int) : Int := idxP (fun a => a.id == id) l
theorem auIndex_any (l : List Auth) (id : Int) (v : Value) (w : World) (hv : SlAu w v l) : Calls Tryz.prog 92 #[v, .int .i64 id] w fun e w' => e = .returned (.int .i64 (auIdx l id)) ∧ Grew w w' := by
  obtain ⟨cs, h1, h2, h3⟩ := hv
  have he : auIdx l id = idxP (fun c : AuC => c.id == id) cs := (idxP_rel cs l h2 (fun i h h' => by
    have := congrArg AuC.id (h3 i h h').1
    simp only [Auth.c] at this
    rw [this])).symm
  have hix := indexFuncA cs (fun c => c.id == id) _ _ enters_auIndex1 v (w.alloc (.cells #[.int .i64 id] 3)) (h1.mono ((Grew.refl w).alloc _)) (fun W x hW _ => auIndex1 w.heap.size id x W (Nat.lt_of_lt_of_le (by simp) hW.size) ((hW.cell (p := ⟨w.heap.size, 0, none⟩) (by simp)).trans (by simp)))
  rw [he]
  generalize idxP (fun c : AuC => c.id == id) cs = r at hix
  have HX := Lib.hid hix
  clear hix h1 h3 he
  go_enter Tryz.func92, Tryz.ntmps92
  go_wp2_with (first | (go_at_call 116; refine HX.out.mono ?_; rintro e w1 ⟨rfl, hg⟩))
  go_ret
  exact ⟨rfl, ((Grew.refl w).alloc _).trans hg⟩
theorem auIdx_none {l : List Auth} {id : Int} (h : auFind l id = none) : auIdx l id = -1 := by
  refine idxP_miss _ l (fun i hi => ?_)
  have := List.find?_eq_none.1 h l[i] (List.getElem_mem hi)
  simpa using this
theorem auIdx_some {l : List Auth} {id : Int} {b : Auth} (h : auFind l id = some b) : ∃ k, ∃ hk : k < l.length, auIdx l id = (k : Int) ∧ l[k] = b := by
  obtain ⟨hb, k, hk, e, hbef⟩ := List.find?_eq_some_iff_getElem.1 h
  refine ⟨k, hk, idxP_hit _ l k hk (by rw [e]; exact hb) (fun i hi hik => by simpa using hbef i hik), e⟩
theorem auSucc1 (l : List Auth) (v : Value) (B : Nat) (n : Int) (W : World) (hv : SlAu W v l) (h0 : W.cell? ⟨B, 0, none⟩ = some v) :
    Calls Tryz.prog 139 (#[.int .i64 n] ++ #[.pointer (some ⟨B, 0, none⟩)]) W fun e w' => e = .returned (.bool (auFind l n).isNone) ∧ Grew W w' := by
  obtain ⟨A, c, rfl, -, -, -⟩ := hv.open_
  have kI := auIndex_any l n _ W hv
  have hd : decide (auIdx l n < 0) = (auFind l n).isNone := by
    cases hf : auFind l n with
    | none => rw [auIdx_none hf]; rfl
    | some b =>
      obtain ⟨k, hk, e, -⟩ := auIdx_some hf
      rw [e, decide_eq_false (by omega)]
      rfl
  generalize auIdx l n = r at kI hd
  have KI := Lib.hid kI
  have HD := Lib.hid hd
  clear kI hd hv
  go_enter Tryz.func139, Tryz.ntmps139
  go_wp2_with (first | (go_at_call 92; refine KI.out.mono ?_; rintro e w1 ⟨rfl, hg⟩))
  go_ret
  exact ⟨ret_bool HD.out, hg⟩
theorem enters_auSucc1 : ∀ args w, (callFunc 139 args).run Tryz.prog w = .ok (.enter 139 args) w := enters_of Tryz.func139 (by kernel_rfl) rfl
theorem enters_auSucc2 : ∀ args w, (callFunc 140 args).run Tryz.prog w = .ok (.enter 140 args) w := enters_of Tryz.func140 (by kernel_rfl) rfl
theorem enters_auSucc3 : ∀ args w, (callFunc 141 args).run Tryz.prog w = .ok (.enter 141 args) w := enters_of Tryz.func141 (by kernel_rfl) rfl
theorem heldC (W1 W : World) (p q r : Addr) (x y z : Value) (h : W1.cell? p = some x) (h2 : W1.cell? q = some y) (h3 : W1.cell? r = some z) (g : Grew W1 W) : W.cell? p = some x ∧ W.cell? q = some y ∧ W.cell? r = some z ∧ Grew W1 W :=
  ⟨(g.cell (World.block_lt_of_cell? W1 _ h)).trans h, (g.cell (World.block_lt_of_cell? W1 _ h2)).trans h2, (g.cell (World.block_lt_of_cell? W1 _ h3)).trans h3, g⟩
set_option maxHeartbeats 1000000 in
theorem auSucc2 (l : List Auth) (v : Value) (B C : Nat) (n ak : Int) (b : Auth) (W : World) (hf : auFind l n = some b) (hv : SlAu W v l) (h0 : W.cell? ⟨B, 0, none⟩ = some v) (h1 : W.cell? ⟨C, 1, none⟩ = some (.int .i64 ak)) :
    Calls Tryz.prog 140 (#[.int .i64 n] ++ #[.pointer (some ⟨B, 0, none⟩), .pointer (some ⟨C, 0, none⟩)]) W fun e w' => e = .returned (.bool (b.kind != ak)) ∧ Grew W w' := by
  have kI := auIndex_any l n
  obtain ⟨k, hk, ek, rfl⟩ := auIdx_some hf
  rw [ek] at kI
  have HV := Lib.hid hv
  obtain ⟨A, c, rfl, hlc, hc, hr⟩ := hv.open_
  unfold maxLen at hc
  obtain ⟨bb, off, rfl, hbk, hcell⟩ := hr (by omega)
  obtain ⟨nv, xv, -, -, hcl⟩ := hcell k hk
  obtain ⟨-, c1, -, -, -, -⟩ := hcl W (Grew.refl W)
  have hkz : (k : Int) < (l.length : Int) := by omega
  have h0z : (0 : Int) ≤ (k : Int) := by omega
  generalize l[k].kind = bk at c1 ⊢
  have KI := Lib.hid kI
  clear kI hcell hcl hr hv ek hf
  go_enter Tryz.func140, Tryz.ntmps140
  go_wp2_with fail
  go_region_held3 (fun X => X.cell? ⟨B, 0, none⟩ = some (.slice (some ⟨bb, off, none⟩) l.length c) ∧ X.cell? ⟨C, 1, none⟩ = some (.int .i64 ak) ∧ X.cell? ⟨bb, off + k * 6 + 1, none⟩ = some (.int .i64 bk) ∧ Grew W X) (refine heldC W _ _ _ _ _ _ _ h0 h1 c1 (by repeat (first | exact Grew.refl _ | assumption | refine Grew.setCell ?_ (by simp <;> omega) _ | refine Grew.alloc ?_ _ | refine Grew.drew ?_ | refine Grew.drewN ?_ _ | refine Grew.trans ?_ (by assumption))))
    (first | (go_at_call 92; refine (KI.out _ _ (HV.out.mono (by repeat (first | exact Grew.refl _ | assumption | refine Grew.setCell ?_ (by simp <;> omega) _ | refine Grew.alloc ?_ _ | refine Grew.drew ?_ | refine Grew.drewN ?_ _ | refine Grew.trans ?_ (by assumption))))).mono ?_; rintro e w1 ⟨rfl, g1⟩))
  have G : Grew W w1 := (by repeat (first | exact Grew.refl _ | assumption | refine Grew.setCell ?_ (by simp <;> omega) _ | refine Grew.alloc ?_ _ | refine Grew.drew ?_ | refine Grew.drewN ?_ _ | refine Grew.trans ?_ (by assumption)))
  go_wp2
  go_ret
  exact ⟨rfl, G⟩
set_option maxHeartbeats 1000000 in
theorem auSucc3 (l : List Auth) (v : Value) (B C : Nat) (n au : Int) (b : Auth) (W : World) (hf : auFind l n = some b) (hv : SlAu W v l) (h0 : W.cell? ⟨B, 0, none⟩ = some v) (h1 : W.cell? ⟨C, 3, none⟩ = some (.int .i64 au)) :
    Calls Tryz.prog 141 (#[.int .i64 n] ++ #[.pointer (some ⟨B, 0, none⟩), .pointer (some ⟨C, 0, none⟩)]) W fun e w' => e = .returned (.bool (b.fr != au)) ∧ Grew W w' := by
  have kI := auIndex_any l n
  obtain ⟨k, hk, ek, rfl⟩ := auIdx_some hf
  rw [ek] at kI
  have HV := Lib.hid hv
  obtain ⟨A, c, rfl, hlc, hc, hr⟩ := hv.open_
  unfold maxLen at hc
  obtain ⟨bb, off, rfl, hbk, hcell⟩ := hr (by omega)
  obtain ⟨nv, xv, -, -, hcl⟩ := hcell k hk
  obtain ⟨-, -, c1, -, -, -⟩ := hcl W (Grew.refl W)
  have hkz : (k : Int) < (l.length : Int) := by omega
  have h0z : (0 : Int) ≤ (k : Int) := by omega
  generalize l[k].fr = bk at c1 ⊢
  have KI := Lib.hid kI
  clear kI hcell hcl hr hv ek hf
  go_enter Tryz.func141, Tryz.ntmps141
  go_wp2_with fail
  go_region_held3 (fun X => X.cell? ⟨B, 0, none⟩ = some (.slice (some ⟨bb, off, none⟩) l.length c) ∧ X.cell? ⟨C, 3, none⟩ = some (.int .i64 au) ∧ X.cell? ⟨bb, off + k * 6 + 2, none⟩ = some (.int .i64 bk) ∧ Grew W X) (refine heldC W _ _ _ _ _ _ _ h0 h1 c1 (by repeat (first | exact Grew.refl _ | assumption | refine Grew.setCell ?_ (by simp <;> omega) _ | refine Grew.alloc ?_ _ | refine Grew.drew ?_ | refine Grew.drewN ?_ _ | refine Grew.trans ?_ (by assumption))))
    (first | (go_at_call 92; refine (KI.out _ _ (HV.out.mono (by repeat (first | exact Grew.refl _ | assumption | refine Grew.setCell ?_ (by simp <;> omega) _ | refine Grew.alloc ?_ _ | refine Grew.drew ?_ | refine Grew.drewN ?_ _ | refine Grew.trans ?_ (by assumption))))).mono ?_; rintro e w1 ⟨rfl, g1⟩))
  have G : Grew W w1 := (by repeat (first | exact Grew.refl _ | assumption | refine Grew.setCell ?_ (by simp <;> omega) _ | refine Grew.alloc ?_ _ | refine Grew.drew ?_ | refine Grew.drewN ?_ _ | refine Grew.trans ?_ (by assumption)))
  go_wp2
  go_ret
  exact ⟨rfl, G⟩
theorem succ_iff (l : List Auth) (a : Auth) (f : Int → Auth) (hf : ∀ n ∈ a.next, auFind l n = some (f n)) :
    SuccOk l a ↔ a.next.any (fun n => (f n).kind != a.kind) = false ∧ a.next.any (fun n => (f n).fr != a.un) = false := by
  simp only [List.any_eq_false, bne_iff_ne, ne_eq, Decidable.not_not]
  constructor
  · intro hs
    constructor
    · intro n hn
      obtain ⟨b, hb, h1, -⟩ := hs n hn
      rw [hf n hn] at hb
      cases hb
      exact h1
    · intro n hn
      obtain ⟨b, hb, -, h2⟩ := hs n hn
      rw [hf n hn] at hb
      cases hb
      exact h2
  · rintro ⟨h1, h2⟩ n hn
    exact ⟨f n, hf n hn, h1 n hn, h2 n hn⟩
end Go.Proofs.YtfghbendiofbeaaGreatDoor

/- authority: successors, Check, walked. The condition: the library's own variables hold what they must. -/
namespace Go.Proofs.YtfghbendiofbeaaGreatDoor
open Go.RowKit

theorem drew_grew {w W : World} (h : Grew w W) (n : Nat) : Grew w (W.drewN n) := h.drewN n
set_option maxHeartbeats 2000000 in
theorem auSucc_any (l : List Auth) (i : Nat) (hi : i < l.length) (v : Value) (w : World) (hv : SlAu w v l) :
    Calls Tryz.prog 109 #[v, .int .i64 i] w (RetIff (SuccOk l l[i]) w) := by
  have HV := Lib.hid hv
  obtain ⟨A, c, rfl, hlc, hc, hr⟩ := hv.open_
  unfold maxLen at hc
  obtain ⟨b, off, rfl, hbk, hcell⟩ := hr (by omega)
  obtain ⟨nv, xv, hn, hx, hcl⟩ := hcell i hi
  obtain ⟨c0, c1, c2, c3, c4, c5⟩ := hcl w (Grew.refl w)
  have hiz : (i : Int) < (l.length : Int) := by omega
  have h0z : (0 : Int) ≤ (i : Int) := by omega
  have hS : ∀ (f : Int → Auth), (∀ n ∈ l[i].next, auFind l n = some (f n)) → (SuccOk l l[i] ↔ l[i].next.any (fun n => (f n).kind != l[i].kind) = false ∧ l[i].next.any (fun n => (f n).fr != l[i].un) = false) := succ_iff l l[i]
  have hS1 : l[i].next.any (fun n => (auFind l n).isNone) = true → ¬ SuccOk l l[i] := fun h hs => by
    obtain ⟨n, hn, hq⟩ := List.any_eq_true.1 h
    obtain ⟨b, hb, -⟩ := hs n hn
    rw [hb] at hq
    cases hq
  generalize SuccOk l l[i] = PS at hS hS1 ⊢
  have hy : ∃ y, RowKit.Hid (l[i] = y) := ⟨_, rfl⟩
  obtain ⟨y, hy⟩ := hy
  rw [hy.out] at c0 c1 c2 c3 hx hn hS hS1
  obtain ⟨yi, yk, yf, yu, yn, nx⟩ := y
  dsimp only at c0 c1 c2 c3 hx hn hS hS1
  have HX := Lib.hid hx
  obtain ⟨Ax, cx, rfl, -, -, -⟩ := hx.open_
  obtain ⟨An, cn, rfl, -, -, -⟩ := hn.open_
  have HS := Lib.hid hS
  have HS1 := Lib.hid hS1
  clear hS hS1 hcell hcl hr hv hx hn
  have hB : ∀ W, Grew ((w.alloc (.cells [.slice (some ⟨b, off, none⟩) l.length c].toArray 22)).alloc (.cells [.int .i64 yi, .int .i64 yk, .int .i64 yf, .int .i64 yu, .slice An yn.length cn, .slice Ax nx.length cx].toArray 72)) W →
      W.cell? ⟨w.heap.size, 0, none⟩ = some (.slice (some ⟨b, off, none⟩) l.length c) ∧ W.cell? ⟨w.heap.size + 1, 1, none⟩ = some (.int .i64 yk) ∧ W.cell? ⟨w.heap.size + 1, 3, none⟩ = some (.int .i64 yu) ∧ W.cell? ⟨w.heap.size + 1, 5, none⟩ = some (.slice Ax nx.length cx) ∧ Grew w W := fun W hW => by
    have h1 : Grew (w.alloc (.cells [.slice (some ⟨b, off, none⟩) l.length c].toArray 22)) W := ((Grew.refl _).alloc _).trans hW
    have e : ∀ j v, [.int .i64 yi, .int .i64 yk, .int .i64 yf, .int .i64 yu, .slice An yn.length cn, .slice Ax nx.length cx][j]? = some v → W.cell? ⟨w.heap.size + 1, j, none⟩ = some v := fun j v h => by
      have := new_cell hW j v h
      simpa using this
    exact ⟨new_cell h1 0 _ rfl, e 1 _ rfl, e 3 _ rfl, e 5 _ rfl, ((Grew.refl _).alloc _).trans h1⟩
  have HB := Lib.hid hB
  clear hB
  have k1 := fun W hW => containsFuncI nx (fun n => (auFind l n).isNone) _ _ enters_auSucc1 (.slice Ax nx.length cx) W (HX.out.mono (HB.out W hW).2.2.2.2) (fun W' n hW' _ => auSucc1 l _ w.heap.size n W' (HV.out.mono (HB.out W' (hW.trans hW')).2.2.2.2) (HB.out W' (hW.trans hW')).1)
  by_cases hp1 : nx.any (fun n => (auFind l n).isNone) = true
  · rw [hp1] at k1
    have Hn := Lib.hid (HS1.out hp1)
    have K1 := Lib.hid k1
    clear k1 hp1 HS HS1
    go_enter Tryz.func109, Tryz.ntmps109
    go_wp2_with fail
    refine (K1.out _ (Grew.refl _)).mono ?_
    rintro e w1 ⟨rfl, g1⟩
    dsimp only
    go_wp2
    go_ret
    exact RetIff.no 7 (by decide) Hn.out (HB.out _ g1).2.2.2.2
  simp only [Bool.not_eq_true] at hp1
  rw [hp1] at k1
  have hf : ∀ n ∈ nx, auFind l n = some ((auFind l n).getD default) := fun n hn => by
    have := List.any_eq_false.1 hp1 n hn
    cases h : auFind l n with
    | none => rw [h] at this; simp at this
    | some b => rfl
  have hS := HS.out (fun n => (auFind l n).getD default) hf
  have k2 := fun W hW => containsFuncI nx (fun n => ((auFind l n).getD default).kind != yk) _ _ enters_auSucc2 (.slice Ax nx.length cx) W (HX.out.mono (HB.out W hW).2.2.2.2) (fun W' n hW' hn => auSucc2 l _ w.heap.size (w.heap.size + 1) n yk _ W' (hf n hn) (HV.out.mono (HB.out W' (hW.trans hW')).2.2.2.2) (HB.out W' (hW.trans hW')).1 (HB.out W' (hW.trans hW')).2.1)
  have k3 := fun W hW => containsFuncI nx (fun n => ((auFind l n).getD default).fr != yu) _ _ enters_auSucc3 (.slice Ax nx.length cx) W (HX.out.mono (HB.out W hW).2.2.2.2) (fun W' n hW' hn => auSucc3 l _ w.heap.size (w.heap.size + 1) n yu _ W' (hf n hn) (HV.out.mono (HB.out W' (hW.trans hW')).2.2.2.2) (HB.out W' (hW.trans hW')).1 (HB.out W' (hW.trans hW')).2.2.1)
  generalize nx.any (fun n => ((auFind l n).getD default).kind != yk) = q2 at k2 hS
  generalize nx.any (fun n => ((auFind l n).getD default).fr != yu) = q3 at k3 hS
  have K1 := Lib.hid k1
  have K2 := Lib.hid k2
  have K3 := Lib.hid k3
  have HSI := Lib.hid hS
  clear k1 k2 k3 hp1 hf HS HS1 hS
  go_enter Tryz.func109, Tryz.ntmps109
  go_wp2_with fail
  refine (K1.out _ (Grew.refl _)).mono ?_
  rintro e w1 ⟨rfl, g1⟩
  have HG1 := Lib.hid g1
  obtain ⟨-, -, -, e5, -⟩ := HB.out _ g1
  clear g1 K1
  dsimp only
  go_wp2_with fail
  refine (K2.out _ HG1.out).mono ?_
  rintro e w2 ⟨rfl, g2⟩
  have HG2 := Lib.hid (HG1.out.trans g2)
  obtain ⟨-, -, -, f5, -⟩ := HB.out _ HG2.out
  clear g2 K2
  dsimp only
  cases q2 with
  | true =>
    have Hn : RowKit.Hid (¬ PS) := fun h => by have := (HSI.out.1 h).1; cases this
    go_wp2
    go_ret
    exact RetIff.no 10 (by decide) Hn.out (HB.out _ HG2.out).2.2.2.2
  | false =>
  go_wp2_with fail
  refine (K3.out _ HG2.out).mono ?_
  rintro e w3 ⟨rfl, g3⟩
  have HG3 := Lib.hid (HG2.out.trans g3)
  clear g3 K3
  dsimp only
  cases q3 with
  | true =>
    have Hn : RowKit.Hid (¬ PS) := fun h => by have := (HSI.out.1 h).2; cases this
    go_wp2
    go_ret
    exact RetIff.no 16 (by decide) Hn.out (HB.out _ HG3.out).2.2.2.2
  | false =>
    have Hy : RowKit.Hid PS := HSI.out.2 ⟨by first | rfl | trivial, by first | rfl | trivial⟩
    go_wp2
    go_ret
    exact RetIff.yes Hy.out (HB.out _ HG3.out).2.2.2.2

/-- A call that answers with two numbers, the second of which is 0 just if P holds. -/
def RetIff2 (P : Prop) (w : World) (e : Ending) (w' : World) : Prop := ∃ i n : Int, e = .returned (.tuple #[.int .i64 i, .int .i64 n]) ∧ (n = 0 ↔ P) ∧ Grew w w'
theorem RetIff2.no {P : Prop} {w w' : World} (i n : Int) (hn : n ≠ 0) (h : ¬ P) (hg : Grew w w') : RetIff2 P w (.returned (.tuple #[.int .i64 i, .int .i64 n])) w' := ⟨i, n, rfl, ⟨fun e => absurd e hn, fun e => absurd e h⟩, hg⟩
theorem RetIff2.yes {P : Prop} {w w' : World} (i : Int) (h : P) (hg : Grew w w') : RetIff2 P w (.returned (.tuple #[.int .i64 i, .int .i64 0])) w' := ⟨i, 0, rfl, ⟨fun _ => h, fun _ => rfl⟩, hg⟩
set_option maxHeartbeats 4000000 in
theorem auCheck_any (l : List Auth) (v : Value) (w : World) (hE : Env w) (hv : SlAu w v l) : Calls Tryz.prog 80 #[v] w (RetIff2 (AuthRight l) w) := by
  have HV := Lib.hid hv
  have HE := Lib.hid hE
  obtain ⟨A, c, rfl, hlc, hc, -⟩ := hv.open_
  unfold maxLen at hc
  clear hv hE
  by_cases h64 : 64 < l.length
  · have hb : (64 : Int) < (l.length : Int) := by omega
    have Hn : RowKit.Hid (¬ AuthRight l) := fun h => by have := h.1; omega
    go_enter Tryz.func80, Tryz.ntmps80
    go_wp2
    go_ret2
    exact RetIff2.no _ 8 (by decide) Hn.out (Grew.refl w)
  have hb : ¬ (64 : Int) < (l.length : Int) := by omega
  have HD : RowKit.Hid (AuthRight l ↔ (∀ i (h : i < l.length), AuAlone l i h) ∧ ∀ i (h : i < l.length), SuccOk l l[i]) := ⟨fun h => h.2, fun h => ⟨by omega, h⟩⟩
  generalize AuthRight l = PR at HD ⊢
  have KA := Lib.hid (fun i hi W (hW : Grew w W) => auAlone_any l i hi (.slice A l.length c) W (HE.out.mono hW) (HV.out.mono hW))
  have KS := Lib.hid (fun i hi W (hW : Grew w W) => auSucc_any l i hi (.slice A l.length c) W (HV.out.mono hW))
  go_enter Tryz.func80, Tryz.ntmps80
  go_wp2
  refine wp_loop_rounds 3 ?_
  rw [rounds_succ]
  go_wp2
  have HW0 := Lib.hid (show Grew w (w.alloc (.cells #[.func (.func 108) #[] #[], .func (.func 109) #[] #[]] 127)) from (Grew.refl w).alloc _)
  go_loopg [19] l.length (fun gg s19 wr => ∃ k : Nat, k ≤ l.length ∧ l.length - k ≤ gg ∧ s19 = .int .i64 k ∧ Aside (Grew (w.alloc (.cells #[.func (.func 108) #[] #[], .func (.func 109) #[] #[]] 127)) wr) ∧ Aside (∀ i (h : i < l.length), i < k → AuAlone l i h))
  case atStart => exact ⟨0, by omega, by omega, rfl, (show Aside _ from Grew.refl _), (show Aside _ from fun i h h2 => by omega)⟩
  case round =>
    obtain ⟨k, hk, hgk, rfl, BW, M⟩ := hrel
    by_cases hlt : k < l.length
    · have hltz : (k : Int) < (l.length : Int) := by omega
      have HN : RowKit.Hid (¬ AuAlone l k hlt → ¬ PR) := fun h h2 => h ((HD.out.1 h2).1 k hlt)
      have HY : RowKit.Hid (AuAlone l k hlt → ∀ i (h : i < l.length), i < k + 1 → AuAlone l i h) := fun h i hi h2 => by
        by_cases e : i = k
        · subst e; exact h
        · exact M.out i hi (by omega)
      have KK := Lib.hid (KA.out k hlt _ (HW0.out.trans BW.out))
      generalize AuAlone l k hlt = PK at HN HY KK
      go_wp2_with fail
      refine KK.out.mono ?_
      rintro e w1 ⟨n, rfl, hnn, g1⟩
      have HNN := Lib.hid hnn
      have HG1 := Lib.hid g1
      clear hnn g1
      dsimp only
      by_cases hz : n = 0
      · subst hz
        have Hy := Lib.hid (HY.out (HNN.out.1 rfl))
        go_wp2
        go_roundg (l.length - (k + 1))
        case measure => omega
        case rel => exact ⟨k + 1, by omega, by omega, by go_num, (show Aside _ from BW.out.trans HG1.out), (show Aside _ from Hy.out)⟩
      · have hz' : (n != 0) = true := by simpa using hz
        have Hz := Lib.hid hz
        have Hn : RowKit.Hid (¬ PR) := HN.out (fun h => Hz.out (HNN.out.2 h))
        clear hz
        go_wp2
        go_ret2
        exact RetIff2.no _ n Hz.out Hn.out ((HW0.out.trans BW.out).trans HG1.out)
    have hltz : ¬ (k : Int) < (l.length : Int) := by omega
    have HALL := Lib.hid (fun i h => M.out i h (by omega))
    have HW1 := Lib.hid (HW0.out.trans BW.out)
    have f1 := new_cell BW.out 1 _ rfl
    obtain ⟨wr1, rfl⟩ : ∃ wr1 : World, wr1 = wr := ⟨_, rfl⟩
    clear M
    go_wp2
    rw [rounds_succ]
    go_wp2
    go_loopg [19] l.length (fun gg s19 wr => ∃ k : Nat, k ≤ l.length ∧ l.length - k ≤ gg ∧ s19 = .int .i64 k ∧ Aside (Grew wr1 wr) ∧ Aside (∀ i (h : i < l.length), i < k → SuccOk l l[i]))
    case atStart => exact ⟨0, by omega, by omega, rfl, (show Aside _ from Grew.refl _), (show Aside _ from fun i h h2 => by omega)⟩
    case round =>
      obtain ⟨k, hk, hgk, rfl, BW, M⟩ := hrel
      by_cases hlt : k < l.length
      · have hltz : (k : Int) < (l.length : Int) := by omega
        have HN : RowKit.Hid (¬ SuccOk l l[k] → ¬ PR) := fun h h2 => h ((HD.out.1 h2).2 k hlt)
        have HY : RowKit.Hid (SuccOk l l[k] → ∀ i (h : i < l.length), i < k + 1 → SuccOk l l[i]) := fun h i hi h2 => by
          by_cases e : i = k
          · subst e; exact h
          · exact M.out i hi (by omega)
        have KK := Lib.hid (KS.out k hlt _ (HW1.out.trans BW.out))
        generalize SuccOk l l[k] = PK at HN HY KK
        go_wp2_with fail
        refine KK.out.mono ?_
        rintro e w1 ⟨n, rfl, hnn, g1⟩
        have HNN := Lib.hid hnn
        have HG1 := Lib.hid g1
        clear hnn g1
        dsimp only
        by_cases hz : n = 0
        · subst hz
          have Hy := Lib.hid (HY.out (HNN.out.1 rfl))
          go_wp2
          go_roundg (l.length - (k + 1))
          case measure => omega
          case rel => exact ⟨k + 1, by omega, by omega, by go_num, (show Aside _ from BW.out.trans HG1.out), (show Aside _ from Hy.out)⟩
        · have hz' : (n != 0) = true := by simpa using hz
          have Hz := Lib.hid hz
          have Hn : RowKit.Hid (¬ PR) := HN.out (fun h => Hz.out (HNN.out.2 h))
          clear hz
          go_wp2
          go_ret2
          exact RetIff2.no _ n Hz.out Hn.out ((HW1.out.trans BW.out).trans HG1.out)
      have hltz : ¬ (k : Int) < (l.length : Int) := by omega
      have HALL2 := Lib.hid (fun i h => M.out i h (by omega))
      have Hy : RowKit.Hid PR := HD.out.2 ⟨HALL.out, HALL2.out⟩
      go_wp2
      rw [rounds_succ]
      go_wp2
      go_ret2
      exact RetIff2.yes _ Hy.out (HW1.out.trans BW.out)
end Go.Proofs.YtfghbendiofbeaaGreatDoor

/- slices.Index, Contains at numbers; slices.Clone at numbers and relations. No condition but the sizes that a slice can have. -/
namespace Go.Proofs.YtfghbendiofbeaaGreatDoor
open Go.RowKit

set_option maxHeartbeats 1000000 in
/-- slices.Index at Int. -/
theorem indexI (l : List Int) (x : Int) (v : Value) (w : World) (hv : SlI w v l) :
    Calls Tryz.prog 78 #[v, .int .i64 x] w fun e w' => e = .returned (.int .i64 (idxP (fun y => (x == y)) l)) ∧ w = w' := by
  obtain ⟨A, c, rfl, hlc, hc, hr⟩ := hv.open_
  unfold maxLen at hc
  have HR := Lib.hid hr
  clear hr hv
  generalize hp : (fun y : Int => (x == y)) = p
  have HP := Lib.hid hp
  clear hp
  go_enter Tryz.func78, Tryz.ntmps78
  go_wp2
  go_loop [5, 8] (fun _ s8 => ∃ kk : Nat, kk ≤ l.length ∧ s8 = .int .i64 kk ∧ Aside (∀ i (hi : i < l.length), i < kk → p l[i] = false)) (fun _ i => l.length - (intOf i).toNat)
  case atStart => exact ⟨0, Nat.zero_le _, rfl, fun i hi h => absurd h (Nat.not_lt_zero _)⟩
  case round =>
    obtain ⟨kk, hkk, rfl, M⟩ := hrel
    by_cases hlt : kk < l.length
    · obtain ⟨b, off, rfl, hb, hcell⟩ := HR.out (by omega)
      have c0 := hcell w (Grew.refl w) kk hlt
      clear hcell
      have hq0 : p l[kk] = (x == l[kk]) := by rw [← HP.out]
      generalize hy : l[kk] = y at c0 hq0
      have B : Aside (l[kk] = y) := hy
      clear hy
      cases hq : p y with
      | true =>
        rw [hq] at hq0
        have hq1 := hq0.symm
        have Hq : Aside (p y = true) := hq
        clear hq0 hq
        go_wp2
        go_ret
        refine ⟨?_, rfl⟩
        rw [idxP_hit p l kk hlt (by rw [B.out]; exact Hq.out) M.out]
        rfl
      | false =>
        rw [hq] at hq0
        have hq1 := hq0.symm
        have Hq : Aside (p y = false) := hq
        clear hq0 hq
        go_wp2
        go_round
        case measure => simp [intOf]; omega
        case rel =>
          refine ⟨kk + 1, by omega, by go_num, (show Aside _ from fun i hi h => ?_)⟩
          by_cases e : i = kk
          · subst e
            rw [B.out]; exact Hq.out
          · exact M.out i hi (by omega)
    · go_wp2
      go_ret
      refine ⟨?_, rfl⟩
      rw [idxP_miss p l (fun i hi => M.out i hi (by omega))]
      rfl
theorem containsI (l : List Int) (x : Int) (v : Value) (w : World) (hv : SlI w v l) :
    Calls Tryz.prog 36 #[v, .int .i64 x] w fun e w' => e = .returned (.bool (l.any fun y => (x == y))) ∧ w = w' := by
  have hi := Lib.hid (indexI l x v w hv)
  have hd := idxP_any (fun y => (x == y)) l
  generalize idxP (fun y => (x == y)) l = i at hi hd
  have Hd := Lib.hid hd
  clear hv hd
  go_enter Tryz.func36, Tryz.ntmps36
  go_wp2_with (first | (go_at_call 78; refine hi.out.mono ?_; rintro e w1 ⟨rfl, rfl⟩))
  go_ret
  exact ⟨ret_bool Hd.out, rfl⟩

theorem cinfoI : (Tryz.prog.info? 3).map (fun i => (i.zero, i.size, i.bytes)) = some (some (.int .i64 0), 1, 8) := by kernel_rfl
theorem one_cellsI (l : List Int) : ∀ u ∈ l.flatMap oneI, u.oneCell' = true := by
  intro u hu
  rw [List.mem_flatMap] at hu
  obtain ⟨x, _, hx⟩ := hu
  simp [oneI] at hx
  rcases hx with rfl <;> rfl
set_option maxHeartbeats 1000000 in
/-- slices.Clone at Int: a slice of its own that holds the same. -/
theorem cloneI (l : List Int) (v : Value) (w : World) (hv : SlI w v l) (hb : l.length * 8 ≤ 140737488355328) :
    Calls Tryz.prog 37 #[v] w fun e w' => ∃ v', e = .returned v' ∧ w'.ownsRow w.heap.size 3 1 v' l.length (l.flatMap oneI) ∧ Grew w w' := by
  obtain ⟨A, n, c, rfl, hl, hn, hc, hr⟩ := hv
  have hfl := flatMap_len oneI 1 (fun _ => rfl) l
  obtain rfl : n = l.length := by omega
  unfold maxLen at hc
  have q22 : ∀ (w : World) (a : Option Addr) (n c : Nat), (binOp .eql 43 (.slice a n c) (.slice none 0 0)).run Tryz.prog w = .ok (.bool a.isNone) w := fun w a n c => Lib.run_eql_slice_nil w _ _ a n c 0 0 Tryz.underlying43
  cases A with
  | none =>
    have h0 : l.length = 0 := by
      rcases Nat.eq_zero_or_pos l.length with h | h
      · exact h
      · obtain ⟨b, off, hA, _⟩ := hr h
        cases hA
    obtain rfl : l = [] := List.eq_nil_of_length_eq_zero h0
    clear hr hl hn hfl h0 hb
    go_enter Tryz.func37, Tryz.ntmps37
    go_wp2
    go_ret
    exact ⟨_, rfl, World.ownsRow_nil _ _ _ _, Grew.refl w⟩
  | some ad =>
    have hcells : ∀ j u, (l.flatMap oneI)[j]? = some u → w.cell? (ad.add j) = some u := by
      intro j u hu
      have h0 : 0 < l.length := by
        rcases Nat.eq_zero_or_pos l.length with h | h
        · have := (List.getElem?_eq_some_iff.1 hu).1
          rw [hfl, h] at this
          omega
        · exact h
      obtain ⟨b, off, hA, _, hcell⟩ := hr h0
      cases hA
      rw [add_lit]
      exact hcell j u hu
    have HC := Lib.hid hcells
    have H1 := Lib.hid (one_cellsI l)
    have HL := Lib.hid hl
    generalize l.flatMap oneI = cs at HC H1 HL ⊢
    clear hcells hr hl hfl
    obtain ⟨i0, hi, hz0, hz1, hz2⟩ := info_parts cinfoI
    go_enter Tryz.func37, Tryz.ntmps37
    go_wp2_with (at_builtin; refine wpList_append_own _ rfl _ _ 43 rfl w.heap.size 3 i0 (.int .i64 0) 1 8 Tryz.underlying43 hi hz0 hz1 hz2 rfl (by omega) _ _ _ rfl (World.ownsRow_made w #[] 0 (Nat.le_refl _) (Nat.zero_le _) (by simp)) ad l.length c cs rfl ?qc1 ?qc2 ?qc3 ?qc4 ?qc5 ?qc6 ?_)
    case qc1 => exact HL.out
    case qc2 => exact fun j u hu => (Grew.cell ((Grew.refl w).alloc _) (by
      have := block_lt_of_cell (HC.out j u hu)
      exact this)).trans (HC.out j u hu)
    case qc3 => exact H1.out
    case qc4 => unfold maxLen; omega
    case qc5 => omega
    case qc6 => simp
    intro v' w1 hown hgrow _
    go_wp2
    go_ret
    refine ⟨v', rfl, by simpa using hown, ?_⟩
    exact Below.grown ((Below.refl w.heap.size w).alloc (Nat.le_refl _) _) hgrow (by simp) (fun k hk => by simp [Value.ownBlock] at hk; omega)

theorem cinfoR : (Tryz.prog.info? 27).map (fun i => (i.zero, i.size, i.bytes)) = some (some (.agg #[.int .i64 0, .int .i64 0, .int .i64 0, .int .i64 0, .int .i64 0]), 5, 40) := by kernel_rfl
theorem one_cellsR (l : List Rel) : ∀ u ∈ l.flatMap Rel.cells, u.oneCell' = true := by
  intro u hu
  rw [List.mem_flatMap] at hu
  obtain ⟨x, _, hx⟩ := hu
  simp [Rel.cells] at hx
  rcases hx with rfl | rfl | rfl | rfl | rfl <;> rfl
set_option maxHeartbeats 1000000 in
/-- slices.Clone at Rel: a slice of its own that holds the same. -/
theorem cloneR (l : List Rel) (v : Value) (w : World) (hv : SlR w v l) (hb : l.length * 40 ≤ 140737488355328) :
    Calls Tryz.prog 15 #[v] w fun e w' => ∃ v', e = .returned v' ∧ w'.ownsRow w.heap.size 27 5 v' l.length (l.flatMap Rel.cells) ∧ Grew w w' := by
  obtain ⟨A, n, c, rfl, hl, hn, hc, hr⟩ := hv
  have hfl := flatMap_len Rel.cells 5 (fun _ => rfl) l
  obtain rfl : n = l.length := by omega
  unfold maxLen at hc
  have q22 : ∀ (w : World) (a : Option Addr) (n c : Nat), (binOp .eql 23 (.slice a n c) (.slice none 0 0)).run Tryz.prog w = .ok (.bool a.isNone) w := fun w a n c => Lib.run_eql_slice_nil w _ _ a n c 0 0 Tryz.underlying23
  cases A with
  | none =>
    have h0 : l.length = 0 := by
      rcases Nat.eq_zero_or_pos l.length with h | h
      · exact h
      · obtain ⟨b, off, hA, _⟩ := hr h
        cases hA
    obtain rfl : l = [] := List.eq_nil_of_length_eq_zero h0
    clear hr hl hn hfl h0 hb
    go_enter Tryz.func15, Tryz.ntmps15
    go_wp2
    go_ret
    exact ⟨_, rfl, World.ownsRow_nil _ _ _ _, Grew.refl w⟩
  | some ad =>
    have hcells : ∀ j u, (l.flatMap Rel.cells)[j]? = some u → w.cell? (ad.add j) = some u := by
      intro j u hu
      have h0 : 0 < l.length := by
        rcases Nat.eq_zero_or_pos l.length with h | h
        · have := (List.getElem?_eq_some_iff.1 hu).1
          rw [hfl, h] at this
          omega
        · exact h
      obtain ⟨b, off, hA, _, hcell⟩ := hr h0
      cases hA
      rw [add_lit]
      exact hcell j u hu
    have HC := Lib.hid hcells
    have H1 := Lib.hid (one_cellsR l)
    have HL := Lib.hid hl
    generalize l.flatMap Rel.cells = cs at HC H1 HL ⊢
    clear hcells hr hl hfl
    obtain ⟨i0, hi, hz0, hz1, hz2⟩ := info_parts cinfoR
    go_enter Tryz.func15, Tryz.ntmps15
    go_wp2_with (at_builtin; refine wpList_append_own _ rfl _ _ 23 rfl w.heap.size 27 i0 (.agg #[.int .i64 0, .int .i64 0, .int .i64 0, .int .i64 0, .int .i64 0]) 5 40 Tryz.underlying23 hi hz0 hz1 hz2 rfl (by omega) _ _ _ rfl (World.ownsRow_made w #[] 0 (Nat.le_refl _) (Nat.zero_le _) (by simp)) ad l.length c cs rfl ?qc1 ?qc2 ?qc3 ?qc4 ?qc5 ?qc6 ?_)
    case qc1 => exact HL.out
    case qc2 => exact fun j u hu => (Grew.cell ((Grew.refl w).alloc _) (by
      have := block_lt_of_cell (HC.out j u hu)
      exact this)).trans (HC.out j u hu)
    case qc3 => exact H1.out
    case qc4 => unfold maxLen; omega
    case qc5 => omega
    case qc6 => simp
    intro v' w1 hown hgrow _
    go_wp2
    go_ret
    refine ⟨v', rfl, by simpa using hown, ?_⟩
    exact Below.grown ((Below.refl w.heap.size w).alloc (Nat.le_refl _) _) hgrow (by simp) (fun k hk => by simp [Value.ownBlock] at hk; omega)

end Go.Proofs.YtfghbendiofbeaaGreatDoor

/- authority: clone, own, Find, walked. No condition but the sizes that a slice can have. -/
namespace Go.Proofs.YtfghbendiofbeaaGreatDoor
open Go.RowKit

theorem cinfoN : (Tryz.prog.info? 69).map (fun i => (i.zero, i.size, i.bytes)) = some (some (.agg #[.string ⟨#[]⟩, .int .i64 0, .int .i64 0]), 3, 32) := by kernel_rfl
theorem one_cellsN (l : List Nam) : ∀ u ∈ l.flatMap Nam.cells, u.oneCell' = true := by
  intro u hu
  rw [List.mem_flatMap] at hu
  obtain ⟨x, _, hx⟩ := hu
  simp [Nam.cells] at hx
  rcases hx with rfl | rfl | rfl <;> rfl
theorem auCloneN (l : List Nam) (v : Value) (w : World) (hv : SlN w v l) (hb : l.length * 32 ≤ 140737488355328) :
    Calls Tryz.prog 118 #[v] w fun e w' => ∃ v', e = .returned v' ∧ w'.ownsRow w.heap.size 69 3 v' l.length (l.flatMap Nam.cells) ∧ Grew w w' := by
  have hfl := flatMap_len Nam.cells 3 (fun _ => rfl) l
  have HV := Lib.hid hv
  have HF := Lib.hid hfl
  obtain ⟨i0, hi, hz0, hz1, hz2⟩ := info_parts cinfoN
  obtain ⟨A, c, rfl, -, -, -⟩ := hv.open_
  clear hv hfl
  go_enter Tryz.func118, Tryz.ntmps118
  go_wp2_with (at_builtin; refine appR rfl _ _ 70 rfl w 69 i0 (.agg #[.string ⟨#[]⟩, .int .i64 0, .int .i64 0]) 3 32 Tryz.underlying70 hi hz0 hz1 hz2 rfl (by omega) (.slice none 0 0) 0 [] (by rfl) w (World.ownsRow_nil _ _ _ _) (Grew.refl w) _ l.length (l.flatMap Nam.cells) (by rfl) HV.out HF.out (one_cellsN l) (by unfold maxLen; omega) (by omega) ?_; intro v' w1 hown hg _; have HO := Lib.hid hown; clear hown)
  go_ret
  refine ⟨_, rfl, ?_, hg⟩
  have := HO.out
  simpa using this
theorem auCloneI (l : List Int) (v : Value) (w : World) (hv : SlI w v l) (hb : l.length * 8 ≤ 140737488355328) :
    Calls Tryz.prog 119 #[v] w fun e w' => ∃ v', e = .returned v' ∧ w'.ownsRow w.heap.size 3 1 v' l.length (l.flatMap oneI) ∧ Grew w w' := by
  have hfl := flatMap_len oneI 1 (fun _ => rfl) l
  have HV := Lib.hid hv
  have HF := Lib.hid hfl
  obtain ⟨i0, hi, hz0, hz1, hz2⟩ := info_parts cinfoI
  obtain ⟨A, c, rfl, -, -, -⟩ := hv.open_
  clear hv hfl
  go_enter Tryz.func119, Tryz.ntmps119
  go_wp2_with (at_builtin; refine appR rfl _ _ 43 rfl w 3 i0 (.int .i64 0) 1 8 Tryz.underlying43 hi hz0 hz1 hz2 rfl (by omega) (.slice none 0 0) 0 [] (by rfl) w (World.ownsRow_nil _ _ _ _) (Grew.refl w) _ l.length (l.flatMap oneI) (by rfl) HV.out HF.out (one_cellsI l) (by unfold maxLen; omega) (by omega) ?_; intro v' w1 hown hg _; have HO := Lib.hid hown; clear hown)
  go_ret
  refine ⟨_, rfl, ?_, hg⟩
  have := HO.out
  simpa using this
theorem keep_some {a b : World} (g : Grew a b) (p : Addr) (h : (a.cell? p).isSome = true) : (b.cell? p).isSome = true := by
  obtain ⟨u, hu⟩ := Option.isSome_iff_exists.1 h
  rw [(g.cell (World.block_lt_of_cell? a _ hu)).trans hu]
  rfl
theorem own_slice {w : World} {base : Nat} {e : TypeId} {k : Nat} {v : Value} {n : Nat} {xs : List Value} (h : w.ownsRow base e k v n xs) : ∃ A c, v = .slice A n c := by
  rcases h.2 with ⟨rfl, rfl⟩ | ⟨g, cap, cur, rfl, _⟩
  · exact ⟨_, _, rfl⟩
  · exact ⟨_, _, rfl⟩
set_option maxHeartbeats 4000000 in
theorem auOwn_any (a : Auth) (nv xv : Value) (w : World) (hn : SlN w nv a.names) (hx : SlI w xv a.next) (h1 : a.names.length ≤ 1000000) (h2 : a.next.length ≤ 1000000) :
    Calls Tryz.prog 93 #[.agg #[.int .i64 a.id, .int .i64 a.kind, .int .i64 a.fr, .int .i64 a.un, nv, xv]] w fun e w' => ∃ A1 n1 c1 A2 n2 c2, e = .returned (.agg #[.int .i64 a.id, .int .i64 a.kind, .int .i64 a.fr, .int .i64 a.un, .slice A1 n1 c1, .slice A2 n2 c2]) ∧ Grew w w' := by
  have KN := Lib.hid (fun W (hW : Grew w W) => auCloneN a.names nv W (hn.mono hW) (by omega))
  have KI := Lib.hid (fun W (hW : Grew w W) => auCloneI a.next xv W (hx.mono hW) (by omega))
  obtain ⟨An, cn, rfl, -, -, -⟩ := hn.open_
  obtain ⟨Ax, cx, rfl, -, -, -⟩ := hx.open_
  clear hn hx
  obtain ⟨ai, ak, af, au, an, ax⟩ := a
  dsimp only at *
  go_enter Tryz.func93, Tryz.ntmps93
  go_wp2_with fail
  go_region_with (first | (go_at_call 118; refine (KN.out _ (by repeat (first | exact Grew.refl _ | assumption | refine Grew.setCell ?_ (by simp <;> omega) _ | refine Grew.alloc ?_ _ | refine Grew.drew ?_ | refine Grew.drewN ?_ _ | refine Grew.trans ?_ (by first | assumption | exact HG1.out | exact HG2.out)))).mono ?_; rintro e w1 ⟨v1, rfl, ho1, g1⟩; obtain ⟨A1, c1, rfl⟩ := own_slice ho1; clear ho1; have hz1 : w.heap.size + 1 < w1.heap.size := (by have := g1.size; (try simp at this); omega); have hy1 : w.heap.size < w1.heap.size := (by omega); obtain ⟨hc1, hf1⟩ := g1.cells; have k14 := keep_some g1 ⟨w.heap.size, 4, none⟩ (by first | assumption | simp); have k15 := keep_some g1 ⟨w.heap.size, 5, none⟩ (by first | assumption | simp); have HG1 := Lib.hid g1; clear g1) | (go_at_call 119; refine (KI.out _ (by repeat (first | exact Grew.refl _ | assumption | refine Grew.setCell ?_ (by simp <;> omega) _ | refine Grew.alloc ?_ _ | refine Grew.drew ?_ | refine Grew.drewN ?_ _ | refine Grew.trans ?_ (by first | assumption | exact HG1.out | exact HG2.out)))).mono ?_; rintro e w2 ⟨v2, rfl, ho2, g2⟩; obtain ⟨A2, c2, rfl⟩ := own_slice ho2; clear ho2; have hz2 : w.heap.size + 1 < w2.heap.size := (by have := g2.size; (try simp at this); omega); have hy2 : w.heap.size < w2.heap.size := (by omega); obtain ⟨hc2, hf2⟩ := g2.cells; have k24 := keep_some g2 ⟨w.heap.size, 4, none⟩ (by first | assumption | simp); have k25 := keep_some g2 ⟨w.heap.size, 5, none⟩ (by first | assumption | simp); have HG2 := Lib.hid g2; clear g2))
  all_goals go_wp2
  all_goals refine bodyPost_ret (v := .agg #[.int .i64 ai, .int .i64 ak, .int .i64 af, .int .i64 au, .slice A1 an.length c1, .slice A2 ax.length c2]) (by simp [results, Tryz.results93, go_sem, hc1, hc2, hz1]) rfl ⟨_, _, _, _, _, _, rfl, ?_⟩
  all_goals repeat (with_reducible refine Grew.setCell ?_ (by simp) _)
  all_goals first | (with_reducible exact ((((Grew.refl w).alloc _).alloc _).drew.trans HG1.out).trans HG2.out) | (with_reducible exact ((((Grew.refl w).alloc _).alloc _).drew.trans HG2.out).trans HG1.out)
end Go.Proofs.YtfghbendiofbeaaGreatDoor

/- authority.Find, walked. The condition: each authority has few names and successors. -/
namespace Go.Proofs.YtfghbendiofbeaaGreatDoor
open Go.RowKit

def au0 : Auth := ⟨0, 0, 0, 0, [], []⟩
/-- How Find ends. -/
def FindEnd (o : Option Auth) (w : World) (e : Ending) (w' : World) : Prop :=
  ∃ A1 n1 c1 A2 n2 c2, e = .returned (.tuple #[.agg #[.int .i64 (o.getD au0).id, .int .i64 (o.getD au0).kind, .int .i64 (o.getD au0).fr, .int .i64 (o.getD au0).un, .slice A1 n1 c1, .slice A2 n2 c2], .bool o.isSome]) ∧ Grew w w'
def FewAu (l : List Auth) : Prop := ∀ i (h : i < l.length), l[i].names.length ≤ 1000000 ∧ l[i].next.length ≤ 1000000
set_option maxHeartbeats 2000000 in
theorem auFind_any (l : List Auth) (id : Int) (v : Value) (w : World) (hv : SlAu w v l) (hf : FewAu l) : Calls Tryz.prog 64 #[v, .int .i64 id] w (FindEnd (auFind l id) w) := by
  have HV := Lib.hid hv
  have kI := auIndex_any l id
  cases ho : auFind l id with
  | none =>
    rw [auIdx_none ho] at kI
    have KI := Lib.hid (fun W hW => kI v W (HV.out.mono hW))
    clear kI ho hv hf
    go_enter Tryz.func64, Tryz.ntmps64
    go_wp2_with (first | (go_at_call 92; refine (KI.out _ ((Grew.refl w).alloc _)).mono ?_; rintro e w1 ⟨rfl, g1⟩; have hz1 : w.heap.size < w1.heap.size := Nat.lt_of_lt_of_le (by simp) g1.size; obtain ⟨hc1, hf1⟩ := g1.cells; have HG1 := Lib.hid g1; clear g1))
    refine bodyPost_ret (v := .tuple #[.agg #[.int .i64 0, .int .i64 0, .int .i64 0, .int .i64 0, .slice none 0 0, .slice none 0 0], .bool false]) (by simp [results, Tryz.results64, go_sem, hc1]) rfl ⟨_, _, _, _, _, _, rfl, ?_⟩
    repeat (with_reducible refine Grew.setCell ?_ (by simp) _)
    exact ((Grew.refl w).alloc _).trans HG1.out
  | some b =>
    obtain ⟨k, hk, ek, rfl⟩ := auIdx_some ho
    rw [ek] at kI
    have KI := Lib.hid (fun W hW => kI v W (HV.out.mono hW))
    obtain ⟨A, c, rfl, hlc, hc, hr⟩ := hv.open_
    unfold maxLen at hc
    obtain ⟨bb, off, rfl, hbk, hcell⟩ := hr (by omega)
    obtain ⟨nv, xv, hn, hx, hcl⟩ := hcell k hk
    have KO := Lib.hid (fun W (hW : Grew w W) => auOwn_any l[k] nv xv W (hn.mono hW) (hx.mono hW) (hf k hk).1 (hf k hk).2)
    have HCL := Lib.hid hcl
    have hkz : (k : Int) < (l.length : Int) := by omega
    have h0z : (0 : Int) ≤ (k : Int) := by omega
    have hneg : ¬ (k : Int) < 0 := by omega
    obtain ⟨An, cn, rfl, -, -, -⟩ := hn.open_
    obtain ⟨Ax, cx, rfl, -, -, -⟩ := hx.open_
    generalize l[k] = y at KO HCL
    obtain ⟨yi, yk, yf, yu, yn, yx⟩ := y
    dsimp only at KO HCL
    clear kI ho hv hf ek hcell hcl hr hn hx
    go_enter Tryz.func64, Tryz.ntmps64
    go_wp2_with fail
    refine (KI.out _ ((Grew.refl w).alloc _)).mono ?_
    rintro e w1 ⟨rfl, g1⟩
    have HG1 := Lib.hid g1
    have HW1 := Lib.hid (((Grew.refl w).alloc _).trans g1)
    obtain ⟨c0, c1, c2, c3, c4, c5⟩ := HCL.out w1 HW1.out
    have hz1 : w.heap.size < w1.heap.size := Nat.lt_of_lt_of_le (by simp) g1.size
    clear g1
    dsimp only
    go_wp2_with fail
    refine (KO.out _ HW1.out).mono ?_
    rintro e w2 ⟨A1, n1, d1, A2, n2, d2, rfl, g2⟩
    have HG2 := Lib.hid g2
    have hz2 : w.heap.size < w2.heap.size := Nat.lt_of_lt_of_le hz1 g2.size
    have HC2 := Lib.hid (Grew.cells (HG1.out.trans g2))
    obtain ⟨hc2, hf2⟩ := HC2.out
    clear g2 c0 c1 c2 c3 c4 c5
    dsimp only
    go_wp2
    refine bodyPost_ret (v := .tuple #[.agg #[.int .i64 yi, .int .i64 yk, .int .i64 yf, .int .i64 yu, .slice A1 n1 d1, .slice A2 n2 d2], .bool true]) (by simp [results, Tryz.results64, go_sem, hc2]) rfl ⟨_, _, _, _, _, _, rfl, ?_⟩
    repeat (with_reducible refine Grew.setCell ?_ (by simp) _)
    exact HW1.out.trans HG2.out
end Go.Proofs.YtfghbendiofbeaaGreatDoor
