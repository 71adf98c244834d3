/- Lemmas on what the functions of the program and of the library compute: Inh. The conditions stand at each. -/
import Derived.Test.YtfghbendiofbeaaGreatDoorQ1
import Derived.Test.YtfghbendiofbeaaGreatDoorQ11
import Derived.Test.YtfghbendiofbeaaGreatDoorQ14
import Derived.RangeFuncCalls
/- relation.Inherited, walked. The conditions: the library's own variables hold what they must; the lists are short. -/
namespace Go.Proofs.YtfghbendiofbeaaGreatDoor
open Go.RowKit Go.Shelf

attribute [local go_sem] Oper.semAt_some

/-- The first unit with holders, and these. -/
def inhF (l : List Rel) (r d : Int) : List Int → List Int × Int
  | [] => ([], 0)
  | u :: us => if holdersF l u r d = [] then inhF l r d us else (holdersF l u r d, u)
open Classical in
noncomputable def inhR (t : Tr) (a : List Auth) (l : List Rel) (unit r d : Int) : (List Int × Int) × Int :=
  if ¬ RightT t ∨ asksF a l ≠ 0 then (([], 0), 1) else if orF [(pathR t.brs unit).2, rangedF r d] ≠ 0 then (([], 0), orF [(pathR t.brs unit).2, rangedF r d]) else (inhF l r d (pathR t.brs unit).1.reverse, 0)
def RetInh (r : (List Int × Int) × Int) (w : World) (e : Ending) (w' : World) : Prop := ∃ v, e = .returned (.tuple #[v, .int .i64 r.1.2, .int .i64 r.2]) ∧ SlI w' v r.1.1 ∧ Grew w w'
def inhW (w : World) (rv bv lv : Value) (r d : Int) : World :=
  ((((((w.alloc (.cells #[rv, bv] 51)).alloc (.cells #[lv] 23)).alloc (.cells #[.int .i64 r] 3)).alloc (.cells #[.int .i64 d] 3)).alloc (.cells #[.slice none 0 0] 43)).alloc (.cells #[.int .i64 0] 3)).alloc (.cells #[.int .i64 0] 30)
theorem inhW_grew (w : World) (rv bv lv : Value) (r d : Int) : Grew w (inhW w rv bv lv r d) := ((((((((Grew.refl w).alloc _).alloc _).alloc _).alloc _).alloc _).alloc _).alloc _)
theorem inhW_cells (w : World) (rv bv lv : Value) (r d : Int) : (inhW w rv bv lv r d).heap.size = w.heap.size + 1 + 1 + 1 + 1 + 1 + 1 + 1 ∧
    (inhW w rv bv lv r d).cell? ⟨w.heap.size, 0, none⟩ = some rv ∧ (inhW w rv bv lv r d).cell? ⟨w.heap.size, 1, none⟩ = some bv ∧ (inhW w rv bv lv r d).cell? ⟨w.heap.size + 1, 0, none⟩ = some lv ∧ (inhW w rv bv lv r d).cell? ⟨w.heap.size + 1 + 1, 0, none⟩ = some (.int .i64 r) ∧ (inhW w rv bv lv r d).cell? ⟨w.heap.size + 1 + 1 + 1, 0, none⟩ = some (.int .i64 d) ∧
    ((inhW w rv bv lv r d).cell? ⟨w.heap.size + 1 + 1 + 1 + 1, 0, none⟩ = some (.slice none 0 0) ∧ (inhW w rv bv lv r d).cell? ⟨w.heap.size + 1 + 1 + 1 + 1 + 1, 0, none⟩ = some (.int .i64 0) ∧ (inhW w rv bv lv r d).cell? ⟨w.heap.size + 1 + 1 + 1 + 1 + 1 + 1, 0, none⟩ = some (.int .i64 0)) ∧
    (inhW w rv bv lv r d).frozen? ⟨w.heap.size + 1 + 1 + 1 + 1, 0, none⟩ = false ∧ (inhW w rv bv lv r d).frozen? ⟨w.heap.size + 1 + 1 + 1 + 1 + 1, 0, none⟩ = false ∧ (inhW w rv bv lv r d).frozen? ⟨w.heap.size + 1 + 1 + 1 + 1 + 1 + 1, 0, none⟩ = false := by
  unfold inhW
  refine ⟨by simp, ?_, ?_, ?_, ?_, ?_, ⟨?_, ?_, ?_⟩, ?_, ?_, ?_⟩ <;> go_simp
structure InhBox (w W : World) (rv bv lv : Value) (r d : Int) : Prop where
  c0 : W.cell? ⟨w.heap.size, 0, none⟩ = some rv
  c1 : W.cell? ⟨w.heap.size, 1, none⟩ = some bv
  c2 : W.cell? ⟨w.heap.size + 1, 0, none⟩ = some lv
  c3 : W.cell? ⟨w.heap.size + 1 + 1, 0, none⟩ = some (.int .i64 r)
  c4 : W.cell? ⟨w.heap.size + 1 + 1 + 1, 0, none⟩ = some (.int .i64 d)
  c5 : W.cell? ⟨w.heap.size + 1 + 1 + 1 + 1, 0, none⟩ = some (.slice none 0 0)
  c6 : W.cell? ⟨w.heap.size + 1 + 1 + 1 + 1 + 1, 0, none⟩ = some (.int .i64 0)
  c7 : W.cell? ⟨w.heap.size + 1 + 1 + 1 + 1 + 1 + 1, 0, none⟩ = some (.int .i64 0)
  f5 : W.frozen? ⟨w.heap.size + 1 + 1 + 1 + 1, 0, none⟩ = false
  f6 : W.frozen? ⟨w.heap.size + 1 + 1 + 1 + 1 + 1, 0, none⟩ = false
  f7 : W.frozen? ⟨w.heap.size + 1 + 1 + 1 + 1 + 1 + 1, 0, none⟩ = false
theorem inhBox {w W : World} {rv bv lv : Value} {r d : Int} (h : Grew (inhW w rv bv lv r d) W) : InhBox w W rv bv lv r d := by
  obtain ⟨hs, a0, a1, a2, a3, a4, ⟨a5, a6, a7⟩, b5, b6, b7⟩ := inhW_cells w rv bv lv r d
  exact ⟨keep_cell h a0, keep_cell h a1, keep_cell h a2, keep_cell h a3, keep_cell h a4, keep_cell h a5, keep_cell h a6, keep_cell h a7, (h.frozen (World.block_lt_of_cell? _ _ a5)).trans b5, (h.frozen (World.block_lt_of_cell? _ _ a6)).trans b6, (h.frozen (World.block_lt_of_cell? _ _ a7)).trans b7⟩
theorem rd_kept {W W' : World} {row : Option Nat} {k : Nat} {v : Value} {cs : List Value} (h : Rd W k v cs) (hg : W.grownBy W' row) (hr : ∀ r, row = some r → ∃ o : Obj, W.heap[r]? = some o ∧ o.isCells = false) : Rd W' k v cs := by
  obtain ⟨A, n, c, hv, hl, hn, hc, h0⟩ := h
  refine ⟨A, n, c, hv, hl, hn, hc, fun hp => ?_⟩
  obtain ⟨b, off, hA, hb, hcell⟩ := h0 hp
  exact ⟨b, off, hA, Nat.lt_of_lt_of_le hb hg.size, fun j u hu => cell_kept (hcell j u hu) hg hr⟩
theorem rd_set {W : World} {k : Nat} {v : Value} {cs : List Value} {p : Addr} (u : Value) (h : Rd W k v cs) (hp : v.ownBlock ≠ some p.block) : Rd (W.setCell p u) k v cs := by
  obtain ⟨A, n, c, rfl, hl, hn, hc, h0⟩ := h
  refine ⟨A, n, c, rfl, hl, hn, hc, fun hpos => ?_⟩
  obtain ⟨b, off, rfl, hb, hcell⟩ := h0 hpos
  refine ⟨b, off, rfl, by simpa using hb, fun j x hx => ?_⟩
  rw [World.cell?_setCell_other _ _ _ _ (fun e => hp (by subst e; rfl))]
  exact hcell j x hx
theorem keeps_grew {W W' : World} (B : Nat) (g : Grew W W') : KeepsFrom B W W' := ⟨g.size, fun k _ _ hk _ => (g.block k (Array.getElem?_eq_some_iff.1 hk).1).trans hk⟩
theorem getD_rev (zs : List Int) (k : Nat) (h : k < zs.length) : zs.getD (zs.length - 1 - k) 0 = zs.reverse[k]'(by simpa using h) := by
  rw [List.getElem_reverse, List.getD_eq_getElem?_getD, List.getElem?_eq_getElem (by omega)]
  rfl
theorem backP_snd (zs : List Int) : ∀ k, k ≤ zs.length → (backP zs k).map Prod.snd = zs.reverse.take k
  | 0, _ => rfl
  | k + 1, h => by
    rw [backP_succ, List.map_append, backP_snd zs k (by omega), List.take_succ_eq_append_getElem (by simp; omega)]
    simp only [List.map_cons, List.map_nil]
    rw [getD_rev zs k (by omega)]
theorem inhF_none (l : List Rel) (r d : Int) : ∀ us : List Int, (∀ y ∈ us, holdersF l y r d = []) → inhF l r d us = ([], 0)
  | [], _ => rfl
  | u :: us, h => by rw [inhF, if_pos (h u (by simp))]; exact inhF_none l r d us (fun y hy => h y (by simp [hy]))
theorem inhF_hit (l : List Rel) (r d u : Int) (rest : List Int) (hu : holdersF l u r d ≠ []) : ∀ us : List Int, (∀ y ∈ us, holdersF l y r d = []) → inhF l r d (us ++ [u] ++ rest) = (holdersF l u r d, u)
  | [], _ => by simp [inhF, hu]
  | y :: us, h => by
    rw [List.cons_append, List.cons_append, inhF, if_pos (h y (by simp))]
    exact inhF_hit l r d u rest hu us (fun z hz => h z (by simp [hz]))
set_option maxHeartbeats 8000000 in
set_option maxRecDepth 100000 in
/-- The ways that end ahead of the loop. -/
theorem inhEarly (rs : List Int) (br : List Br) (a : List Auth) (l : List Rel) (unit r d : Int) (rv bv av lv : Value) (w : World) (hE : Env w) (hr : SlI w rv rs) (hv : SlBr w bv br) (hfb : FewBr br) (hrl : rs.length ≤ 1000000) (ha : SlAu w av a) (hf : FewAu a) (hl : SlR w lv l)
    (hno : (¬ RightT ⟨rs, br⟩ ∨ asksF a l ≠ 0) ∨ orF [(pathR br unit).2, rangedF r d] ≠ 0) :
    Calls Tryz.prog 30 #[.agg #[rv, bv], av, lv, .int .i64 unit, .int .i64 r, .int .i64 d] w (RetInh (inhR ⟨rs, br⟩ a l unit r d) w) := by
  have kT := fun W (hW : Grew w W) => tCheck rs br rv bv W (hE.mono hW) (hr.mono hW) (hv.mono hW) hfb hrl
  have kA := fun W (hW : Grew w W) => rAsks a l av lv W (hE.mono hW) (ha.mono hW) hf (hl.mono hW)
  have kP : RightT ⟨rs, br⟩ → ∀ W, Grew w W → _ := fun hT W (hW : Grew w W) => tPath rs br unit rv bv W (hE.mono hW) (hr.mono hW) (hv.mono hW) hfb hrl hT
  have kR := rRanged r d
  unfold inhR
  dsimp only
  generalize pathR br unit = pr at kP hno ⊢
  generalize rangedF r d = q2 at kR hno ⊢
  generalize asksF a l = q1 at kA hno ⊢
  generalize RightT ⟨rs, br⟩ = PT at kT kP hno ⊢
  generalize hz : orF [pr.2, q2] = z at hno ⊢
  have hfr : ∀ W : World, SlI (W.alloc (.cells #[.int .i64 pr.2, .int .i64 q2] 30)) (.slice (some ⟨W.heap.size, 0, none⟩) 2 2) [pr.2, q2] := fun W => Rd.fresh W _ 1 2 [.int .i64 pr.2, .int .i64 q2] rfl (by decide)
  have KO := Lib.hid (fun W => cmpOrE_any [pr.2, q2] _ _ (hfr W))
  rw [hz] at KO
  obtain ⟨A1, n1, c1, rfl, -⟩ : ∃ A n c, lv = .slice A n c ∧ True := by obtain ⟨A, c, h, _⟩ := hl.open_; exact ⟨_, _, _, h, trivial⟩
  obtain ⟨A2, n2, c2, rfl, -⟩ : ∃ A n c, rv = .slice A n c ∧ True := by obtain ⟨A, c, h, _⟩ := hr.open_; exact ⟨_, _, _, h, trivial⟩
  obtain ⟨A3, n3, c3, rfl, -⟩ : ∃ A n c, bv = .slice A n c ∧ True := by obtain ⟨A, c, h, _⟩ := hv.open_; exact ⟨_, _, _, h, trivial⟩
  have KT := Lib.hid kT
  have KA := Lib.hid kA
  have KP := Lib.hid kP
  have KR := Lib.hid kR
  have HGW := Lib.hid (inhW_grew w (.slice A2 n2 c2) (.slice A3 n3 c3) (.slice A1 n1 c1) r d)
  have HBX := Lib.hid (fun W (h : Grew (inhW w (.slice A2 n2 c2) (.slice A3 n3 c3) (.slice A1 n1 c1) r d) W) => inhBox h)
  have hsz := (inhW_cells w (.slice A2 n2 c2) (.slice A3 n3 c3) (.slice A1 n1 c1) r d).1
  have HSZ := Lib.hid hsz
  have HNO := Lib.hid hno
  clear kT kA kP kR hE hr hv hfb hrl ha hf hl hno hz hfr hsz
  by_cases hP : PT
  case neg =>
    rw [if_pos (.inl hP)]
    have HP := Lib.hid hP
    clear hP
    go_enter Tryz.func30, Tryz.ntmps30
    go_wp2_with fail
    refine (KT.out _ (by have := HGW.out; unfold inhW at this; exact this)).mono ?_
    rintro e w1 ⟨i1, m1, rfl, hm1, g1⟩
    have hmz : (m1 != 0) = true := by rw [bne_iff_ne]; exact fun e => HP.out (hm1.1 e)
    obtain ⟨b0, b1, b2, b3, b4, b5, b6, b7, f5, f6, f7⟩ := HBX.out w1 g1
    have G1 := Lib.hid (HGW.out.trans g1)
    clear g1 hm1
    dsimp only
    go_wp2
    refine bodyPost_ret (v := .tuple #[.slice none 0 0, .int .i64 0, .int .i64 1]) (by simp [results, Tryz.results30, go_sem, b5, b6, b7]) rfl ⟨_, rfl, SlI.nil _, ?_⟩
    repeat (with_reducible refine Grew.setCell ?_ (by simp <;> omega) _)
    exact G1.out
  have HP := Lib.hid hP
  by_cases h1 : q1 = 0
  case neg =>
    rw [if_pos (.inr h1)]
    have hz1 : (q1 != 0) = true := by simpa using h1
    clear h1 hP
    go_enter Tryz.func30, Tryz.ntmps30
    go_wp2_with fail
    refine (KT.out _ (by have := HGW.out; unfold inhW at this; exact this)).mono ?_
    rintro e w1 ⟨i1, m1, rfl, hm1, g1⟩
    obtain rfl := hm1.2 HP.out
    obtain ⟨b0, b1, b2, b3, b4, b5, b6, b7, f5, f6, f7⟩ := HBX.out w1 g1
    have G1 := Lib.hid (HGW.out.trans g1)
    have GI1 := Lib.hid (show Grew (inhW w (.slice A2 n2 c2) (.slice A3 n3 c3) (.slice A1 n1 c1) r d) w1 from g1)
    clear g1 hm1
    dsimp only
    go_wp2_with fail
    refine (KA.out _ G1.out).mono ?_
    rintro e w2 ⟨rfl, g2⟩
    have GI2 := Lib.hid (GI1.out.trans g2)
    have G2 := Lib.hid (G1.out.trans g2)
    clear g2 b0 b1 b2 b3 b4 b5 b6 b7 f5 f6 f7
    obtain ⟨b0, b1, b2, b3, b4, b5, b6, b7, f5, f6, f7⟩ := HBX.out w2 GI2.out
    dsimp only
    go_wp2
    refine bodyPost_ret (v := .tuple #[.slice none 0 0, .int .i64 0, .int .i64 1]) (by simp [results, Tryz.results30, go_sem, b5, b6, b7]) rfl ⟨_, rfl, SlI.nil _, ?_⟩
    repeat (with_reducible refine Grew.setCell ?_ (by simp <;> omega) _)
    exact G2.out
  subst h1
  rw [if_neg (by simp [hP])]
  have hz0 : z ≠ 0 := by
    rcases HNO.out with (h | h) | h
    · exact absurd hP h
    · exact absurd rfl h
    · exact h
  rw [if_pos hz0]
  have hzz : (z != 0) = true := by simpa using hz0
  clear hz0 hP HNO
  go_enter Tryz.func30, Tryz.ntmps30
  go_wp2_with fail
  refine (KT.out _ (by have := HGW.out; unfold inhW at this; exact this)).mono ?_
  rintro e w1 ⟨i1, m1, rfl, hm1, g1⟩
  obtain rfl := hm1.2 HP.out
  obtain ⟨b0, b1, b2, b3, b4, b5, b6, b7, f5, f6, f7⟩ := HBX.out w1 g1
  have G1 := Lib.hid (HGW.out.trans g1)
  have GI1 := Lib.hid (show Grew (inhW w (.slice A2 n2 c2) (.slice A3 n3 c3) (.slice A1 n1 c1) r d) w1 from g1)
  clear g1 hm1
  dsimp only
  go_wp2_with fail
  refine (KA.out _ G1.out).mono ?_
  rintro e w2 ⟨rfl, g2⟩
  have GI2 := Lib.hid (GI1.out.trans g2)
  have G2 := Lib.hid (G1.out.trans g2)
  clear g2 b0 b1 b2 b3 b4 b5 b6 b7 f5 f6 f7
  obtain ⟨b0, b1, b2, b3, b4, b5, b6, b7, f5, f6, f7⟩ := HBX.out w2 GI2.out
  dsimp only
  go_wp2_with fail
  refine (KP.out HP.out _ G2.out).mono ?_
  rintro e w3 ⟨v3, rfl, hs3, g3⟩
  have GI3 := Lib.hid (GI2.out.trans g3)
  have G3 := Lib.hid (G2.out.trans g3)
  clear g3 hs3 b0 b1 b2 b3 b4 b5 b6 b7 f5 f6 f7
  obtain ⟨b0, b1, b2, b3, b4, b5, b6, b7, f5, f6, f7⟩ := HBX.out w3 GI3.out
  dsimp only
  go_wp2_with fail
  refine (KR.out _).mono ?_
  rintro e w4 ⟨rfl, rfl⟩
  dsimp only
  go_wp2_with fail
  refine (KO.out _).mono ?_
  rintro e w5 ⟨rfl, hw5⟩
  have GI5 := Lib.hid (show Grew (inhW w (.slice A2 n2 c2) (.slice A3 n3 c3) (.slice A1 n1 c1) r d) w5 from hw5 ▸ GI3.out.alloc _)
  have G5 := Lib.hid (show Grew w w5 from hw5 ▸ G3.out.alloc _)
  clear hw5 b0 b1 b2 b3 b4 b5 b6 b7 f5 f6 f7
  obtain ⟨b0, b1, b2, b3, b4, b5, b6, b7, f5, f6, f7⟩ := HBX.out w5 GI5.out
  dsimp only
  go_wp2
  refine bodyPost_ret (v := .tuple #[.slice none 0 0, .int .i64 0, .int .i64 z]) (by simp [results, Tryz.results30, go_sem, b5, b6, b7]) rfl ⟨_, rfl, SlI.nil _, ?_⟩
  repeat (with_reducible refine Grew.setCell ?_ (by simp <;> omega) _)
  exact G5.out
theorem blk_other {W : World} {D : Nat} {x : Option (List Deferred)} {a : Addr} (u : Value) (hK : W.heap[D]? = some (.deferred x)) : (W.setCell a u).heap[D]? = some (.deferred x) := (KeepsOthers.setCell W a u).same D _ hK rfl
theorem put_cell {W : World} {D : Nat} {o : Obj} {x : Option (List Deferred)} {p : Addr} {v : Value} (hK : W.heap[D]? = some (.deferred x)) (h : W.cell? p = some v) : (W.putObj D o).cell? p = some v := by
  by_cases e : p.block = D
  · unfold World.cell? at h
    rw [e, hK] at h
    cases h
  · unfold World.cell? at h ⊢
    rw [show (W.putObj D o).heap[p.block]? = W.heap[p.block]? by simp [World.putObj, Ne.symm e]]
    exact h
theorem put_rd {W : World} {D : Nat} {o : Obj} {x : Option (List Deferred)} {k : Nat} {v : Value} {cs : List Value} (hK : W.heap[D]? = some (.deferred x)) (h : Rd W k v cs) : Rd (W.putObj D o) k v cs := by
  obtain ⟨A, n, c, hv, hl, hn, hc, h0⟩ := h
  refine ⟨A, n, c, hv, hl, hn, hc, fun hp => ?_⟩
  obtain ⟨b, off, hA, hb, hcell⟩ := h0 hp
  exact ⟨b, off, hA, by simpa [World.putObj] using hb, fun j u hu => put_cell hK (hcell j u hu)⟩
def InhIx (l : List Rel) (r d : Int) (B : Nat) (w : World) (c : Code) (pre : List (Int × Int)) (W : World) : Prop :=
  (c = .ret ∧ ∃ v u us, pre.map Prod.snd = us ++ [u] ∧ (∀ y ∈ us, holdersF l y r d = []) ∧ holdersF l u r d ≠ [] ∧ W.cell? ⟨B, 0, none⟩ = some v ∧ W.cell? ⟨B + 1, 0, none⟩ = some (.int .i64 u) ∧ W.cell? ⟨B + 1 + 1, 0, none⟩ = some (.int .i64 0) ∧ Rd W 1 v ((holdersF l u r d).flatMap oneI)) ∧ Below w.heap.size w W
def InhI (l : List Rel) (r d : Int) (w6 : World) (pre : List (Int × Int)) (W : World) : Prop := (∀ y ∈ pre.map Prod.snd, holdersF l y r d = []) ∧ Below w6.heap.size w6 W
/-- What a round leaves that has found holders. -/
theorem inh_found (l : List Rel) (r d xi xu : Int) (B : Nat) (w w6 W W7 : World) (pre : List (Int × Int)) (v : Value) (hI : InhI l r d w6 pre W) (hh : holdersF l xu r d ≠ []) (hs : SlI W7 v (holdersF l xu r d)) (g7 : Grew W W7) (hn : ∀ k, v.ownBlock = some k → W.heap.size ≤ k) (hw : Grew w W7)
    (hB : w.heap.size ≤ B) (hBW : B + 1 + 1 < W.heap.size) (c5 : (W7.cell? ⟨B, 0, none⟩).isSome = true) (c6 : (W7.cell? ⟨B + 1, 0, none⟩).isSome = true) (c7 : (W7.cell? ⟨B + 1 + 1, 0, none⟩).isSome = true) (N : Nat) :
    KeepsFrom N W (((W7.setCell ⟨B, 0, none⟩ v).setCell ⟨B + 1, 0, none⟩ (.int .i64 xu)).setCell ⟨B + 1 + 1, 0, none⟩ (.int .i64 0)) ∧ InhIx l r d B w .ret (pre ++ [(xi, xu)]) (((W7.setCell ⟨B, 0, none⟩ v).setCell ⟨B + 1, 0, none⟩ (.int .i64 xu)).setCell ⟨B + 1 + 1, 0, none⟩ (.int .i64 0)) := by
  have hne : ∀ b, b < W.heap.size → v.ownBlock ≠ some b := fun b hb e => by have := hn b e; omega
  refine ⟨(keeps_grew _ g7).trans ((((KeepsOthers.setCell _ _ _).from _).trans ((KeepsOthers.setCell _ _ _).from _)).trans ((KeepsOthers.setCell _ _ _).from _)), ⟨rfl, v, xu, pre.map Prod.snd, by simp, hI.1, hh, ?_, ?_, ?_, ?_⟩, ?_⟩
  · rw [World.cell?_setCell_other _ _ _ _ (by simp <;> omega), World.cell?_setCell_other _ _ _ _ (by simp)]
    exact World.cell?_setCell_same' _ _ _ c5
  · rw [World.cell?_setCell_other _ _ _ _ (by simp)]
    refine World.cell?_setCell_same' _ _ _ ?_
    rw [World.cell?_setCell_other _ _ _ _ (by simp)]
    exact c6
  · refine World.cell?_setCell_same' _ _ _ ?_
    rw [World.cell?_setCell_other _ _ _ _ (by simp), World.cell?_setCell_other _ _ _ _ (by simp <;> omega)]
    exact c7
  · exact rd_set _ (rd_set _ (rd_set _ hs (hne _ (by simp <;> omega))) (hne _ (by simp <;> omega))) (hne _ (by simp <;> omega))
  · exact ((hw.setCell (by simp <;> omega) _).setCell (by simp <;> omega) _).setCell (by simp <;> omega) _
set_option maxHeartbeats 8000000 in
set_option maxRecDepth 100000 in
/-- The way into the loop. -/
theorem inhLoop (rs : List Int) (br : List Br) (a : List Auth) (l : List Rel) (unit r d : Int) (rv bv av lv : Value) (w : World) (hE : Env w) (hr : SlI w rv rs) (hv : SlBr w bv br) (hfb : FewBr br) (hrl : rs.length ≤ 1000000) (ha : SlAu w av a) (hf : FewAu a) (hl : SlR w lv l) (hll : l.length ≤ 1000000)
    (hT : RightT ⟨rs, br⟩) (hA : asksF a l = 0) (hO : orF [(pathR br unit).2, rangedF r d] = 0) (hpl : (pathR br unit).1.length ≤ 1000000) :
    CallsIn Fence.wide 3 Tryz.prog 30 #[.agg #[rv, bv], av, lv, .int .i64 unit, .int .i64 r, .int .i64 d] w (RetInh (inhF l r d (pathR br unit).1.reverse, 0) w) := by
  have kT := fun W (hW : Grew w W) => tCheck rs br rv bv W (hE.mono hW) (hr.mono hW) (hv.mono hW) hfb hrl
  have kA := fun W (hW : Grew w W) => rAsks a l av lv W (hE.mono hW) (ha.mono hW) hf (hl.mono hW)
  have kP := fun W (hW : Grew w W) => tPath rs br unit rv bv W (hE.mono hW) (hr.mono hW) (hv.mono hW) hfb hrl hT
  have kR := rRanged r d
  have kH := fun u W (hW : Grew w W) => rHoldersIn l u r d lv W (hl.mono hW) hll (right_wf (asks_right.1 hA))
  rw [hA] at kA
  generalize pathR br unit = pr at kP hO hpl ⊢
  generalize rangedF r d = q2 at kR hO
  have hfr : ∀ W : World, SlI (W.alloc (.cells #[.int .i64 pr.2, .int .i64 q2] 30)) (.slice (some ⟨W.heap.size, 0, none⟩) 2 2) [pr.2, q2] := fun W => Rd.fresh W _ 1 2 [.int .i64 pr.2, .int .i64 q2] rfl (by decide)
  have KO := Lib.hid (fun W => cmpOrE_any [pr.2, q2] _ _ (hfr W))
  rw [hO] at KO
  obtain ⟨A1, n1, c1, rfl, -⟩ : ∃ A n c, lv = .slice A n c ∧ True := by obtain ⟨A, c, h, _⟩ := hl.open_; exact ⟨_, _, _, h, trivial⟩
  obtain ⟨A2, n2, c2, rfl, -⟩ : ∃ A n c, rv = .slice A n c ∧ True := by obtain ⟨A, c, h, _⟩ := hr.open_; exact ⟨_, _, _, h, trivial⟩
  obtain ⟨A3, n3, c3, rfl, -⟩ : ∃ A n c, bv = .slice A n c ∧ True := by obtain ⟨A, c, h, _⟩ := hv.open_; exact ⟨_, _, _, h, trivial⟩
  have KT := Lib.hid kT
  have KA := Lib.hid kA
  have KP := Lib.hid kP
  have KR := Lib.hid kR
  have KH := Lib.hid kH
  have HT := Lib.hid hT
  have HGW := Lib.hid (inhW_grew w (.slice A2 n2 c2) (.slice A3 n3 c3) (.slice A1 n1 c1) r d)
  have HBX := Lib.hid (fun W (h : Grew (inhW w (.slice A2 n2 c2) (.slice A3 n3 c3) (.slice A1 n1 c1) r d) W) => inhBox h)
  have HSZ := Lib.hid (inhW_cells w (.slice A2 n2 c2) (.slice A3 n3 c3) (.slice A1 n1 c1) r d).1
  clear kT kA kP kR kH hE hr hv hfb hrl ha hf hl hfr hT hA hO
  refine callsIn_of_wp_marks Tryz.func30 rfl trivial ?_ rfl
  simp only [Tryz.ntmps30, List.size_toArray, List.length_cons, List.length_nil, Nat.reduceAdd, Nat.reduceSub, Array.replicate_succ, Array.replicate_zero, List.push_toArray, List.append_toArray, List.nil_append, List.cons_append]
  gi_wp2_with fail
  refine ⟨trivial, ?_⟩
  refine (callsIn_wide.2 (KT.out _ (by have := HGW.out; unfold inhW at this; exact this))).mono ?_
  rintro e w1 ⟨i1, m1, rfl, hm1, g1⟩
  obtain rfl := hm1.2 HT.out
  obtain ⟨b0, b1, b2, b3, b4, b5, b6, b7, f5, f6, f7⟩ := HBX.out w1 g1
  have G1 := Lib.hid (HGW.out.trans g1)
  have GI1 := Lib.hid (show Grew (inhW w (.slice A2 n2 c2) (.slice A3 n3 c3) (.slice A1 n1 c1) r d) w1 from g1)
  clear g1 hm1
  dsimp only
  gi_wp2_with fail
  refine ⟨trivial, ?_⟩
  refine (callsIn_wide.2 (KA.out _ G1.out)).mono ?_
  rintro e w2 ⟨rfl, g2⟩
  have GI2 := Lib.hid (GI1.out.trans g2)
  have G2 := Lib.hid (G1.out.trans g2)
  clear g2 b0 b1 b2 b3 b4 b5 b6 b7 f5 f6 f7
  obtain ⟨b0, b1, b2, b3, b4, b5, b6, b7, f5, f6, f7⟩ := HBX.out w2 GI2.out
  dsimp only
  gi_wp2_with fail
  refine ⟨trivial, ?_⟩
  refine (callsIn_wide.2 (KP.out _ G2.out)).mono ?_
  rintro e w3 ⟨v3, rfl, hs3, g3⟩
  obtain ⟨A4, c4, rfl, -⟩ : ∃ A c, v3 = .slice A pr.1.length c ∧ True := by obtain ⟨A, c, h, _⟩ := hs3.open_; exact ⟨_, _, h, trivial⟩
  have HS3 := Lib.hid hs3
  have GI3 := Lib.hid (GI2.out.trans g3)
  have G3 := Lib.hid (G2.out.trans g3)
  clear g3 hs3 b0 b1 b2 b3 b4 b5 b6 b7 f5 f6 f7
  obtain ⟨b0, b1, b2, b3, b4, b5, b6, b7, f5, f6, f7⟩ := HBX.out w3 GI3.out
  dsimp only
  gi_wp2_with fail
  refine ⟨trivial, ?_⟩
  refine (callsIn_wide.2 (KR.out _)).mono ?_
  rintro e w4 ⟨rfl, rfl⟩
  dsimp only
  gi_wp2_with fail
  refine ⟨trivial, ?_⟩
  refine (callsIn_wide.2 (KO.out _)).mono ?_
  rintro e w5 ⟨rfl, hw5⟩
  have GI5 := Lib.hid (show Grew (inhW w (.slice A2 n2 c2) (.slice A3 n3 c3) (.slice A1 n1 c1) r d) w5 from hw5 ▸ GI3.out.alloc _)
  have G5 := Lib.hid (show Grew w w5 from hw5 ▸ G3.out.alloc _)
  have HS5 := Lib.hid (show SlI w5 _ _ from HS3.out.mono (hw5 ▸ (Grew.refl w3).alloc _))
  clear hw5 b0 b1 b2 b3 b4 b5 b6 b7 f5 f6 f7 HS3
  obtain ⟨b0, b1, b2, b3, b4, b5, b6, b7, f5, f6, f7⟩ := HBX.out w5 GI5.out
  dsimp only
  gi_wp2_with fail
  refine ⟨trivial, ?_⟩
  refine (callsIn_wide.2 (back_any A4 pr.1.length c4 w5)).mono ?_
  rintro e w6 ⟨rfl, hw6⟩
  have GI6 := Lib.hid (show Grew (inhW w (.slice A2 n2 c2) (.slice A3 n3 c3) (.slice A1 n1 c1) r d) w6 from hw6 ▸ GI5.out.alloc _)
  have G6 := Lib.hid (show Grew w w6 from hw6 ▸ G5.out.alloc _)
  have HS6 := Lib.hid (show SlI w6 _ _ from HS5.out.mono (hw6 ▸ (Grew.refl w5).alloc _))
  have hbs : w6.cell? ⟨w5.heap.size, 0, none⟩ = some (.slice A4 pr.1.length c4) := by rw [← hw6]; simp
  have HBS := Lib.hid hbs
  generalize w5.heap.size = Bs at hbs HBS
  clear hw6 hbs b0 b1 b2 b3 b4 b5 b6 b7 f5 f6 f7 HS5
  dsimp only
  gi_wp2_with fail
  have hb0 : Bs < w6.heap.size := World.block_lt_of_cell? w6 _ HBS.out
  have hbz : w.heap.size + 1 + 1 + 1 + 1 + 1 + 1 < w6.heap.size := World.block_lt_of_cell? w6 _ (HBX.out w6 GI6.out).c7
  have hbz1 : w.heap.size ≤ w6.heap.size := by omega
  refine wpIn_rangeFunc_ownG rfl (by omega) (gf := 101) (lb := #[.pointer (some ⟨Bs, 0, none⟩)]) rfl trivial (enters_of Tryz.func101 (by kernel_rfl) rfl)
    (back_stops Fence.wide 2 trivial rfl (by omega) Bs _ pr.1 hpl w6 hb0 HBS.out HS6.out) belowK_t (belowK_b (Nat.le_refl _)) (Below.refl _ _) (fun _ => rfl)
    (InhI l r d w6)
    (InhIx l r d (w.heap.size + 1 + 1 + 1 + 1) w)
    (fun s A B row hs hg hr => ⟨hs.1, ownFrom_below (β := Unit) (Nat.le_refl _) (Nat.le_refl _) () A B row hs.2 hg hr⟩)
    (fun c s A B row hs hg hr => by
      obtain ⟨⟨h1, v, u, us, h2, h3, h4, h5, h6, h7, h8⟩, h9⟩ := hs
      have hr' := fun r e => (hr r e).2
      exact ⟨⟨h1, v, u, us, h2, h3, h4, cell_kept h5 hg hr', cell_kept h6 hg hr', cell_kept h7 hg hr', rd_kept h8 hg hr'⟩, ownFrom_below (β := Unit) (Nat.le_refl _) hbz1 () A B row h9 hg hr⟩)
    ⟨by simp, Below.refl _ _⟩
    (fun x => { tmps := #[Value.agg #[Value.slice A2 n2 c2, Value.slice A3 n3 c3], av, Value.slice A1 n1 c1, Value.int IntKind.i64 unit, Value.int IntKind.i64 r, Value.int IntKind.i64 d, Value.pointer (some { block := w.heap.size, off := 0 }), undef, Value.pointer (some { block := w.heap.size + 1, off := 0 }), undef, Value.pointer (some { block := w.heap.size + 1 + 1, off := 0 }), Value.pointer (some { block := w.heap.size + 1 + 1 + 1, off := 0 }), Value.pointer (some { block := w.heap.size + 1 + 1 + 1 + 1, off := 0 }), Value.pointer (some { block := w.heap.size + 1 + 1 + 1 + 1 + 1, off := 0 }), Value.pointer (some { block := w.heap.size + 1 + 1 + 1 + 1 + 1 + 1, off := 0 }), Value.int IntKind.i64 i1, Value.int IntKind.i64 0, Value.slice A4 pr.fst.length c4, Value.int IntKind.i64 0, undef, Value.int IntKind.i64 x.2, undef, Value.tuple #[Value.int IntKind.i64 i1, Value.int IntKind.i64 0], Value.agg #[Value.slice A2 n2 c2, Value.slice A3 n3 c3], Value.tuple #[Value.int IntKind.i64 i1, Value.int IntKind.i64 0], Value.int IntKind.i64 i1, Value.int IntKind.i64 0, Value.int IntKind.i64 0, Value.bool false, Value.bool false, av, Value.slice A1 n1 c1, Value.int IntKind.i64 0, Value.bool false, Value.bool false, Value.tuple #[Value.slice A4 pr.fst.length c4, Value.int IntKind.i64 pr.snd], Value.agg #[Value.slice A2 n2 c2, Value.slice A3 n3 c3], Value.int IntKind.i64 unit, Value.tuple #[Value.slice A4 pr.fst.length c4, Value.int IntKind.i64 pr.snd], Value.slice A4 pr.fst.length c4, Value.int IntKind.i64 pr.snd, Value.int IntKind.i64 pr.snd, Value.int IntKind.i64 r, Value.int IntKind.i64 d, Value.int IntKind.i64 q2, Value.slice (some { block := w3.heap.size, off := 0 }) 2 2, Value.int IntKind.i64 0, Value.int IntKind.i64 0, Value.bool false, undef, Value.slice A4 pr.fst.length c4, Value.func (Fn.func 101) #[] #[Value.pointer (some { block := Bs, off := 0 })], Value.int IntKind.i64 x.1, Value.int IntKind.i64 x.2, undef, undef, undef, undef, undef, undef, undef, undef, undef, undef], defers := [] }) ?assign ?body ?done ?stop
  case assign =>
    intro l x W K hK
    gi_wp2
    exact hK
  case body =>
    rintro ll pre x W hI hlt
    have hB : Below w6.heap.size w6 W := hI.2
    obtain ⟨b0, b1, b2, b3, b4, b5, b6, b7, f5, f6, f7⟩ := HBX.out W (GI6.out.trans hB)
    have HI := Lib.hid hI
    have HB := Lib.hid (show Grew w6 W from hB)
    obtain ⟨xi, xu⟩ := x
    clear hI hB
    dsimp only
    have hlt7 : w.heap.size + 1 + 1 + 1 + 1 + 1 + 1 < W.heap.size := World.block_lt_of_cell? W _ b7
    gi_wp2_with fail
    refine ⟨trivial, ?_⟩
    refine (CallsIn.inRound ll (callsIn_wide.2 (KH.out xu W (G6.out.trans HB.out)))).mono ?_
    rintro e W7 ⟨v7, rfl, hs7, g7, hn7⟩
    obtain ⟨A7, c7, rfl, -⟩ : ∃ A c, v7 = .slice A (holdersF l xu r d).length c ∧ True := by obtain ⟨A, c, h, _⟩ := hs7.open_; exact ⟨_, _, h, trivial⟩
    have HB7 := Lib.hid (HB.out.trans g7)
    have G7 := Lib.hid (G6.out.trans (HB.out.trans g7))
    have HS7 := Lib.hid hs7
    have HG7 := Lib.hid g7
    have HN7 := Lib.hid hn7
    clear hs7 g7 hn7 b0 b1 b2 b3 b4 b5 b6 b7 f5 f6 f7
    obtain ⟨b0, b1, b2, b3, b4, b5, b6, b7, f5, f6, f7⟩ := HBX.out W7 (GI6.out.trans HB7.out)
    dsimp only
    by_cases hh : holdersF l xu r d = []
    · have hl0 : (holdersF l xu r d).length = 0 := by rw [hh]; rfl
      have HH := Lib.hid hh
      clear hh
      generalize (holdersF l xu r d).length = nn at hl0
      subst hl0
      gi_wp2
      refine ⟨keeps_grew _ HG7.out, (show Below w6.heap.size W W7 from Below.mono HG7.out HB.out.size), ⟨fun y hy => ?_, HB7.out⟩⟩
      rw [List.map_append] at hy
      rcases List.mem_append.1 hy with hy | hy
      · exact HI.out.1 y hy
      · simp at hy
        rw [hy]
        exact HH.out
    · have hpos : 0 < (holdersF l xu r d).length := List.length_pos_iff.2 hh
      have hposz : (0 : Int) < ((holdersF l xu r d).length : Int) := by omega
      have HFin := Lib.hid (inh_found l r d xi xu (w.heap.size + 1 + 1 + 1 + 1) w w6 W W7 pre _ HI.out hh HS7.out HG7.out HN7.out G7.out (by omega) hlt7 (by rw [b5]; rfl) (by rw [b6]; rfl) (by rw [b7]; rfl) w6.heap.size)
      clear hh
      generalize (holdersF l xu r d).length = nn at hpos hposz HS7 HN7 HFin
      gi_wp2
      exact HFin.out
  case done =>
    rintro D ys W hD rfl hI hK
    have GW := Lib.hid (show Grew w W from G6.out.trans hI.2)
    obtain ⟨b0, b1, b2, b3, b4, b5, b6, b7, f5, f6, f7⟩ := HBX.out W (GI6.out.trans hI.2)
    have hRes : inhF l r d pr.1.reverse = ([], 0) := inhF_none l r d _ (by have := hI.1; rw [backP_snd pr.1 _ (Nat.le_refl _), List.take_of_length_le (by simp)] at this; exact this)
    have hK' := fun v5 v6 v7 => blk_other (a := ⟨w.heap.size + 1 + 1 + 1 + 1 + 1 + 1, 0, none⟩) v7 (blk_other (a := ⟨w.heap.size + 1 + 1 + 1 + 1 + 1, 0, none⟩) v6 (blk_other (a := ⟨w.heap.size + 1 + 1 + 1 + 1, 0, none⟩) v5 hK))
    have HRes := Lib.hid hRes
    have HK := Lib.hid hK'
    have hDw : w.heap.size ≤ D := by omega
    have s5 : ∀ v5 v6 v7, (((W.setCell ⟨w.heap.size + 1 + 1 + 1 + 1, 0, none⟩ v5).setCell ⟨w.heap.size + 1 + 1 + 1 + 1 + 1, 0, none⟩ v6).setCell ⟨w.heap.size + 1 + 1 + 1 + 1 + 1 + 1, 0, none⟩ v7).cell? ⟨w.heap.size + 1 + 1 + 1 + 1, 0, none⟩ = some v5 := fun v5 v6 v7 => by
      rw [World.cell?_setCell_other _ _ _ _ (by simp <;> omega), World.cell?_setCell_other _ _ _ _ (by simp)]
      exact World.cell?_setCell_same' _ _ _ (by rw [b5]; rfl)
    have s6 : ∀ v5 v6 v7, (((W.setCell ⟨w.heap.size + 1 + 1 + 1 + 1, 0, none⟩ v5).setCell ⟨w.heap.size + 1 + 1 + 1 + 1 + 1, 0, none⟩ v6).setCell ⟨w.heap.size + 1 + 1 + 1 + 1 + 1 + 1, 0, none⟩ v7).cell? ⟨w.heap.size + 1 + 1 + 1 + 1 + 1, 0, none⟩ = some v6 := fun v5 v6 v7 => by
      rw [World.cell?_setCell_other _ _ _ _ (by simp)]
      exact World.cell?_setCell_same' _ _ _ (by rw [World.cell?_setCell_other _ _ _ _ (by simp), b6]; rfl)
    have s7 : ∀ v5 v6 v7, (((W.setCell ⟨w.heap.size + 1 + 1 + 1 + 1, 0, none⟩ v5).setCell ⟨w.heap.size + 1 + 1 + 1 + 1 + 1, 0, none⟩ v6).setCell ⟨w.heap.size + 1 + 1 + 1 + 1 + 1 + 1, 0, none⟩ v7).cell? ⟨w.heap.size + 1 + 1 + 1 + 1 + 1 + 1, 0, none⟩ = some v7 := fun v5 v6 v7 =>
      World.cell?_setCell_same' _ _ _ (by rw [World.cell?_setCell_other _ _ _ _ (by simp), World.cell?_setCell_other _ _ _ _ (by simp <;> omega), b7]; rfl)
    have S5 := Lib.hid s5
    have S6 := Lib.hid s6
    have S7 := Lib.hid s7
    clear hI hRes hK hK' s5 s6 s7 hD
    gi_wp2
    have hKK := HK.out (.slice none 0 0) (.int .i64 0) (.int .i64 0)
    have p5 := put_cell (o := .deferred none) hKK (S5.out _ _ _)
    have p6 := put_cell (o := .deferred none) hKK (S6.out _ _ _)
    have p7 := put_cell (o := .deferred none) hKK (S7.out _ _ _)
    refine ⟨by simp, .inl ⟨_, _, rfl, run_takeDeferred hKK, ?_⟩⟩
    refine ⟨.tuple #[.slice none 0 0, .int .i64 0, .int .i64 0], by simp [results, Tryz.results30, go_sem, p5, p6, p7], ?_⟩
    rw [HRes.out]
    refine ⟨_, rfl, SlI.nil _, ?_⟩
    refine Below.trans (show Grew w _ from ?_) (belowK_b (w := w) (Nat.le_refl _) _ D _ _ hDw hKK rfl rfl)
    repeat (with_reducible refine Grew.setCell ?_ (by simp <;> omega) _)
    exact GW.out
  case stop =>
    rintro D c pre W hD ⟨k, hk, rfl⟩ ⟨⟨rfl, v, u, us, hp, hus, hu, h5, h6, h7, h8⟩, hB⟩ hK
    have hRes : inhF l r d pr.1.reverse = (holdersF l u r d, u) := by
      rw [backP_snd pr.1 k hk] at hp
      conv => lhs; rw [← List.take_append_drop k pr.1.reverse, hp]
      exact inhF_hit l r d u _ hu us hus
    have HRes := Lib.hid hRes
    have hDw : w.heap.size ≤ D := by omega
    have p5 := put_cell (o := .deferred none) hK h5
    have p6 := put_cell (o := .deferred none) hK h6
    have p7 := put_cell (o := .deferred none) hK h7
    have p8 := put_rd (o := .deferred none) hK h8
    have P5 := Lib.hid p5
    have P6 := Lib.hid p6
    have P7 := Lib.hid p7
    have P8 := Lib.hid p8
    have HK := Lib.hid hK
    have HB := Lib.hid hB
    clear hRes hp p5 p6 p7 p8 h5 h6 h7 h8 hK hB
    gi_wp2
    refine ⟨by simp, .inl ⟨_, _, rfl, run_takeDeferred HK.out, ?_⟩⟩
    refine ⟨.tuple #[v, .int .i64 u, .int .i64 0], by simp [results, Tryz.results30, go_sem, P5.out, P6.out, P7.out], ?_⟩
    rw [HRes.out]
    refine ⟨_, rfl, P8.out, ?_⟩
    exact Below.trans HB.out (belowK_b (w := w) (Nat.le_refl _) _ D _ _ hDw HK.out rfl rfl)
end Go.Proofs.YtfghbendiofbeaaGreatDoor
