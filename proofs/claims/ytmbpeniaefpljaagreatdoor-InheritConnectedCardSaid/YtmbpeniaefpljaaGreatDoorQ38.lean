/- Lemmas on what the functions of the program and of the library compute: RE6, RT2, RT3, RT4. The conditions stand at each. -/
import Derived.Test.YtmbpeniaefpljaaGreatDoorQ21
import Derived.Test.YtmbpeniaefpljaaGreatDoorQ20
import Derived.Test.YtmbpeniaefpljaaGreatDoorQ13
import Derived.Test.YtmbpeniaefpljaaGreatDoorQ4
import Derived.Deep.RegionHeld3
import Derived.Test.YtmbpeniaefpljaaGreatDoorQ5
import Derived.Test.YtmbpeniaefpljaaGreatDoorQ37
import Derived.Test.YtmbpeniaefpljaaGreatDoorQ3
import Derived.Sort.OwnSorted
import Derived.Maps.AppendAt
import Derived.Test.YtmbpeniaefpljaaGreatDoorQ2
import Derived.RangeFuncBox
import Derived.RangeFuncLeaves
import Derived.OwnWalkIn
import Derived.TacticsInMore
import Derived.LoopNIn
import Derived.LoopIn
import Derived.Test.YtmbpeniaefpljaaGreatDoorProg
import Derived.Test.YtmbpeniaefpljaaGreatDoorQ1
import Derived.RangeFuncCalls
import Derived.Test.YtmbpeniaefpljaaGreatDoorQ14
import Derived.Test.YtmbpeniaefpljaaGreatDoorQ19
import Derived.Test.YtmbpeniaefpljaaGreatDoorQ22
import Derived.Deep.AppendLies
import Derived.Test.YtmbpeniaefpljaaGreatDoorQ10
/- The reference's Path of a unit and the inherited holders, walked. The conditions: the lists are short, and the marks no longer than a string can be. -/
namespace Go.Proofs.YtmbpeniaefpljaaGreatDoor
open Go.RowKit

/-- How the reference's question after a tree and a unit ends. -/
def KnownEnd (t : Tr) (id : Int) (top : Bool) (w : World) (e : Ending) (w' : World) : Prop := ∃ n : Int, e = .returned (.int .i64 n) ∧ (¬ RightT t → n = 1) ∧ (RightT t → n = if ((brFind t.brs id).isSome || (top && (id == 0))) then 0 else 7) ∧ Grew w w'
set_option maxHeartbeats 8000000 in
theorem refKnown (rs : List Int) (l : List Br) (id : Int) (top : Bool) (rv bv : Value) (w : World) (hr : SlI w rv rs) (hv : SlBr w bv l) (hf : FewBr l) (hrl : rs.length ≤ 1000000) (hm : ∀ i (h : i < l.length), l[i].mark.size ≤ 9223372036854775807) :
    Calls Tryz.prog 84 #[.agg #[rv, bv], .int .i64 id, .bool top] w (KnownEnd ⟨rs, l⟩ id top w) := by
  have HR := Lib.hid (fun W (hW : Grew w W) => refRight19 rs l rv bv W (hr.mono hW) (hv.mono hW) hf hrl hm)
  have kI := fun W (hW : Grew w W) => refFind19 l id rv bv W (hv.mono hW)
  have HD : RowKit.Hid (∀ n w', (¬ RightT ⟨rs, l⟩ → n = 1) → (RightT ⟨rs, l⟩ → n = if ((brFind l id).isSome || (top && (id == 0))) then 0 else 7) → Grew w w' → KnownEnd ⟨rs, l⟩ id top w (.returned (.int .i64 n)) w') := fun n w' h1 h2 h3 => ⟨n, rfl, h1, h2, h3⟩
  generalize KnownEnd ⟨rs, l⟩ id top w = KE at HD ⊢
  generalize RightT ⟨rs, l⟩ = PR at HR HD
  unfold TFindEnd at kI
  generalize hO : (brFind l id).isSome = os at kI HD
  generalize (brFind l id).getD br0 = y at kI
  obtain ⟨yi, yp, yl, yt, ym, yk⟩ := y
  dsimp only at kI
  have KI := Lib.hid kI
  obtain ⟨A, c, rfl, -, -, -⟩ := hv.open_
  obtain ⟨B, d, rfl, -, -, -⟩ := hr.open_
  clear hr hv hf hrl hm kI hO
  cases hb2 : (id == 0) <;> cases top <;> cases os
  all_goals
    rw [hb2] at HD
    go_enter Tryz.func84, Tryz.ntmps84
    go_wp2_with fail
    refine (HR.out _ ((Grew.refl w).alloc _)).mono ?_
    rintro e w1 ⟨q, rfl, hq, g1⟩
    have t0 := new_cell g1 0 _ rfl
    have t1 := new_cell g1 1 _ rfl
    have HG := Lib.hid (((Grew.refl w).alloc _).trans g1)
    have HQ := Lib.hid hq
    clear g1 hq
    dsimp only
    cases q
    · have Hn : RowKit.Hid (¬ PR) := fun h => by have := HQ.out.2 h; cases this
      go_wp2
      exact HD.out _ _ (fun _ => rfl) (fun h => absurd h Hn.out) HG.out
    · have Hy := Lib.hid (HQ.out.1 rfl)
      go_wp2_with fail
      refine (KI.out _ HG.out).mono ?_
      rintro e w2 ⟨rfl, g2⟩
      have HG2 := Lib.hid (HG.out.trans g2)
      clear g2 t0 t1
      dsimp only
      go_wp2
      exact HD.out _ _ (fun h => absurd Hy.out h) (fun _ => rfl) (HG2.out.alloc _)
end Go.Proofs.YtmbpeniaefpljaaGreatDoor

/- The reference's Children, under and Below of a tree, walked. The conditions: the lists are short. -/
namespace Go.Proofs.YtmbpeniaefpljaaGreatDoor
open Go.RowKit

theorem app_copyI (l : List Int) (v : Value) (w W : World) (hv : SlI w v l) (hG : Grew w W) (hl : l.length ≤ 1000000) : ∃ A n c w', (∀ ty, (Builtin.append_ #[22, 22] ty #[.slice (some ⟨W.heap.size, 0, none⟩) 0 0, v]).run Tryz.prog (W.alloc (.cells #[] 3)) = .ok (.slice A n c) w') ∧ SlI w' (.slice A n c) l ∧ Grew W w' ∧ Lies W.heap.size w' (.slice A n c) := by
  obtain ⟨i0, hi, hz0, hz1, hz2⟩ := info_parts cinfoI
  have hu : Rd (W.alloc (.cells #[] 3)) 1 v (l.flatMap oneI) := Rd.mono hv (hG.alloc _)
  obtain ⟨A, n, c, w', h1, h2, h3, h4⟩ := append_lit (P := Tryz.prog) (W.alloc (.cells #[] 3)) 22 0 3 i0 (.int .i64 0) 1 8 Tryz.underlying22 hi hz0 hz1 hz2 (by omega) W.heap.size v l.length (l.flatMap oneI) hu (by rw [flatMap_len oneI 1 (fun _ => rfl)]) (by unfold maxLen; omega) (by omega) W.heap.size (Nat.le_refl _) (by simp)
  exact ⟨A, n, c, w', fun ty => h1, h2, ((Grew.refl W).alloc _).trans h3, h4⟩
def RetList (r : List Int) (w : World) (e : Ending) (w' : World) : Prop := ∃ v, e = .returned v ∧ SlI w' v r ∧ Grew w w' ∧ Fresh w.heap.size v
theorem childs_hit {rs : List Int} {l : List Br} {id : Int} (h0 : id ≠ 0) {k : Nat} (hk : k < l.length) (hb : ∀ j (hj : j < l.length), j < k → ¬ l[j].id = id) (he : l[k].id = id) : childs ⟨rs, l⟩ id = l[k].kids := by
  unfold childs
  rw [if_neg h0]
  show (match brFind l id with | none => [] | some b => b.kids) = _
  rw [brFind_hit hk hb he]
theorem childs_miss {rs : List Int} {l : List Br} {id : Int} (h0 : id ≠ 0) (hb : ∀ j (hj : j < l.length), ¬ l[j].id = id) : childs ⟨rs, l⟩ id = [] := by
  unfold childs
  rw [if_neg h0]
  show (match brFind l id with | none => [] | some b => b.kids) = _
  rw [brFind_miss hb]
set_option maxHeartbeats 4000000 in
theorem refChildren (rs : List Int) (l : List Br) (id : Int) (rv bv : Value) (w : World) (hr : SlI w rv rs) (hv : SlBr w bv l) (hf : FewBr l) (hrl : rs.length ≤ 1000000) : Calls Tryz.prog 119 #[.agg #[rv, bv], .int .i64 id] w (RetList (childs ⟨rs, l⟩ id) w) := by
  have HRS := Lib.hid hr
  obtain ⟨A, c, rfl, hlc, hc, hrr⟩ := hv.open_
  obtain ⟨B, d, rfl, hld, hd, -⟩ := hr.open_
  unfold maxLen at hc hd
  have HR := Lib.hid hrr
  have GB := Lib.hid ((Grew.refl w).alloc (.cells #[.slice B rs.length d, .slice A l.length c] 25))
  by_cases h0 : id = 0
  · subst h0
    have e : childs ⟨rs, l⟩ 0 = rs := by unfold childs; rw [if_pos rfl]
    rw [e]
    obtain ⟨A1, n1, c1, w1, hrun, s1, g1, l1⟩ := app_copyI rs _ w _ HRS.out GB.out hrl
    rw [World.size_alloc] at hrun
    have S1 := Lib.hid s1
    have L1 := Lib.hid l1
    clear hr hv hrr e s1 l1
    go_enter Tryz.func119, Tryz.ntmps119
    go_wp2_with (at_builtin; refine Lib.wpList_append_run _ rfl _ _ _ _ rfl _ _ rfl rfl _ _ (hrun _) ?_)
    go_ret
    exact ⟨_, rfl, S1.out, GB.out.trans g1, fun k hk => Nat.le_trans GB.out.size (L1.out k hk).1⟩
  · have h0' : (id == 0) = false := by simpa using h0
    have HF1 := Lib.hid (fun k => @childs_hit rs l id h0 k)
    have HF2 := Lib.hid (@childs_miss rs l id h0)
    have HFB := Lib.hid hf
    generalize childs ⟨rs, l⟩ id = O at HF1 HF2 ⊢
    clear hr hv hrr hf h0
    go_enter Tryz.func119, Tryz.ntmps119
    go_wp2
    go_loop [5] (fun i => ∃ k : Nat, k ≤ l.length ∧ i = .int .i64 k ∧ Aside (∀ j (hj : j < l.length), j < k → ¬ l[j].id = id)) (fun i => l.length - (intOf i).toNat)
    case atStart => exact ⟨0, by omega, rfl, (show Aside _ from fun j h h2 => absurd h2 (Nat.not_lt_zero _))⟩
    case round =>
      obtain ⟨k, hk, rfl, M⟩ := hrel
      by_cases hlt : k < l.length
      · have hltz : (k : Int) < (l.length : Int) := by omega
        have h0z : (0 : Int) ≤ (k : Int) := by omega
        obtain ⟨b, off, rfl, hb, hcell⟩ := HR.out (by omega)
        obtain ⟨kv, hkv, hcl⟩ := hcell k hlt
        obtain ⟨c0, -, -, -, -, c5⟩ := hcl _ GB.out
        have HS := Lib.hid (HF1.out k hlt M.out)
        have HN : RowKit.Hid (¬ l[k].id = id → ∀ j (hj : j < l.length), j < k + 1 → ¬ l[j].id = id) := fun h j hj h2 => by
          by_cases e : j = k
          · subst e; exact h
          · exact M.out j hj (by omega)
        have hkl := HFB.out.2 k hlt
        obtain ⟨A1, n1, c1, w1, hrun, s1, g1, l1⟩ := app_copyI l[k].kids _ w _ hkv GB.out hkl
        rw [World.size_alloc] at hrun
        have c5' := fun t => keep_cell ((Grew.refl _).alloc (.cells #[] t)) c5
        have S1 := Lib.hid s1
        have L1 := Lib.hid l1
        have tr := fun t => keep_cell ((Grew.refl (w.alloc (.cells [.slice B rs.length d, .slice (some ⟨b, off, none⟩) l.length c].toArray 25))).alloc (.cells #[] t)) (new_cell (Grew.refl (w.alloc (.cells [.slice B rs.length d, .slice (some ⟨b, off, none⟩) l.length c].toArray 25))) 1 _ rfl)
        obtain ⟨Ak, ck, rfl, -, -, -⟩ := hkv.open_
        generalize l[k] = y at c0 c5 c5' HS HN S1 hrun
        obtain ⟨yi, yp, yl, yt, ym, yk⟩ := y
        dsimp only at c0 c5 c5' HS HN S1 hrun
        clear hcell hcl s1 l1
        by_cases he : yi = id
        · have hO := HS.out he
          have he' : (yi == id) = true := by simpa using he
          subst hO
          clear he HS HN M HF1 HF2
          go_wp2_with (at_builtin; refine Lib.wpList_append_run _ rfl _ _ _ _ rfl _ _ rfl rfl _ _ (hrun _) ?_)
          go_ret
          exact ⟨_, rfl, S1.out, GB.out.trans g1, fun k hk => Nat.le_trans GB.out.size (L1.out k hk).1⟩
        · have he' : (yi == id) = false := by simpa using he
          have Hy := Lib.hid (HN.out he)
          clear he HS HN M
          go_wp2
          go_round
          case rel => exact ⟨k + 1, by omega, by go_num, (show Aside _ from Hy.out)⟩
          case measure => simp [intOf]; omega
      · have hltz : ¬ (k : Int) < (l.length : Int) := by omega
        have hO := HF2.out (fun j hj => M.out j hj (by omega))
        subst hO
        clear HF1 HF2 M
        go_wp2
        go_ret
        exact ⟨_, rfl, SlI.nil _, GB.out, Fresh.nil _ _ _⟩
end Go.Proofs.YtmbpeniaefpljaaGreatDoor

/- The reference's under and Below of a tree, walked. The conditions: the tree is right where anything is below; the lists are short. -/
namespace Go.Proofs.YtmbpeniaefpljaaGreatDoor
open Go.RowKit

/-- Behind k children. -/
structure UnR (w1 : World) (v6 : Value) (ks : List Int) (hd : List Int) (g : Int → List Int) (k : Nat) (s5 : Value) (wr : World) : Prop where
  gr : Grew w1 wr
  own : ∃ L, hd ++ (ks.take k).flatMap g = L ∧ wr.ownsRow w1.heap.size 3 1 s5 L.length (L.flatMap oneI)
  kids : SlI wr v6 ks
  off : 0 < ks.length → ∀ b, s5.ownBlock = some b → v6.ownBlock ≠ some b
theorem sl_block {w : World} {v : Value} {l : List Int} (h : SlI w v l) (h0 : 0 < l.length) : ∃ b, v.ownBlock = some b ∧ b < w.heap.size := by
  obtain ⟨A, c, rfl, -, -, hr⟩ := h.open_
  obtain ⟨b, off, rfl, hb, -⟩ := hr h0
  exact ⟨b, rfl, hb⟩
theorem sl_off {w w' : World} {v : Value} {l : List Int} {row : Option Nat} (h : SlI w v l) (hg : w.grownBy w' row) (hr : 0 < l.length → ∀ b, v.ownBlock = some b → row ≠ some b) : SlI w' v l := by
  rcases Nat.eq_zero_or_pos l.length with h0 | h0
  · obtain rfl : l = [] := List.eq_nil_of_length_eq_zero h0
    obtain ⟨A, c, rfl, hlc, hcm, -⟩ := h.open_
    exact ⟨A, 0, c, rfl, by simp, by omega, hcm, fun h => absurd h (Nat.lt_irrefl _)⟩
  · exact rd_grown h hg (hr h0)
theorem cells_add {W : World} {b o n c : Nat} {l : List Int} (h : SlI W (.slice (some ⟨b, o, none⟩) n c) l) : ∀ j u, (l.flatMap oneI)[j]? = some u → W.cell? ((⟨b, o, none⟩ : Addr).add j) = some u := by
  intro j u hj
  obtain ⟨A, n', c', hv, hl, _, _, hr⟩ := h
  injection hv with hA hn hc
  subst hA hn hc
  have hlt := (List.getElem?_eq_some_iff.1 hj).1
  obtain ⟨b', o', he, _, hcell⟩ := hr (by omega)
  injection he with he
  injection he with e1 e2 _
  subst e1 e2
  rw [add_lit]
  exact hcell j u hj
theorem heldU {WB : World} (wr W : World) {p q r : Addr} {x y z : Value} (h : wr.cell? p = some x) (h2 : wr.cell? q = some y) (h3 : wr.cell? r = some z) (g0 : Grew WB wr) (g : Grew wr W) : W.cell? p = some x ∧ W.cell? q = some y ∧ W.cell? r = some z ∧ Grew WB W := ⟨keep_cell g h, keep_cell g h2, keep_cell g h3, g0.trans g⟩
theorem own_slice3 {w : World} {base : Nat} {e : TypeId} {k n : Nat} {v : Value} {xs : List Value} (h : w.ownsRow base e k v n xs) : ∃ A m c, v = .slice A m c := by
  rcases h.2 with ⟨rfl, _⟩ | ⟨g, cap, cur, rfl, _⟩
  · exact ⟨_, _, _, rfl⟩
  · exact ⟨_, _, _, rfl⟩
theorem unStep {w1 w3 wa : World} {v6 s5 : Value} {ks hd : List Int} {g : Int → List Int} {k ga n n' capa : Nat} {cs : List Value} {L m : List Int} (hL : hd ++ (ks.take (k + 1)).flatMap g = L ++ m) (hgr : Grew w1 w3) (hown : w3.ownsRow w1.heap.size 3 1 s5 n cs) (hk : SlI w3 v6 ks) (hoff : 0 < ks.length → ∀ b, s5.ownBlock = some b → v6.ownBlock ≠ some b)
    (hg : w3.grownBy wa s5.ownBlock) (ho : wa.ownsRow w1.heap.size 3 1 (.slice (some ⟨ga, 0, none⟩) n' capa) (L.length + m.length) (L.flatMap oneI ++ m.flatMap oneI)) (hat : s5.ownBlock = some ga ∨ ga = w3.heap.size) : UnR w1 v6 ks hd g (k + 1) (.slice (some ⟨ga, 0, none⟩) n' capa) wa := by
  refine ⟨Below.grown hgr hg hgr.size (fun b e => (hown.lt b e).1), ⟨_, hL, by rw [List.length_append, List.flatMap_append]; exact ho⟩, sl_off hk hg (fun h0 b hb e => hoff h0 b e hb), fun h0 b hb hb6 => ?_⟩
  simp [Value.ownBlock] at hb
  subst hb
  rcases hat with h | h
  · exact hoff h0 _ h hb6
  · obtain ⟨b, h1, h2⟩ := sl_block hk h0
    rw [hb6] at h1
    injection h1 with h1
    omega
set_option maxHeartbeats 8000000 in
set_option maxRecDepth 100000 in
theorem refUnderBody (rs : List Int) (l : List Br) (rv bv : Value) (w0 : World) (hr : SlI w0 rv rs) (hv : SlBr w0 bv l) (hf : FewBr l) (hrl : rs.length ≤ 1000000) (x : Int) (g : Int → List Int) (hgk : ∀ k ∈ childs ⟨rs, l⟩ x, g k ≠ [])
    (hN : ((if x = 0 then [] else [x]) ++ (childs ⟨rs, l⟩ x).flatMap g).length ≤ 1000000)
    (hK : ∀ k ∈ childs ⟨rs, l⟩ x, ∀ W, Grew w0 W → Calls Tryz.prog 85 #[.agg #[rv, bv], .int .i64 k] W (RetList (g k) W)) (w : World) (hw : Grew w0 w) :
    Calls Tryz.prog 85 #[.agg #[rv, bv], .int .i64 x] w (RetList ((if x = 0 then [] else [x]) ++ (childs ⟨rs, l⟩ x).flatMap g) w) := by
  have KC := Lib.hid (fun W (hW : Grew w0 W) => refChildren rs l x rv bv W (hr.mono hW) (hv.mono hW) hf hrl)
  have HGK := Lib.hid hgk
  have HN := Lib.hid hN
  have HK := Lib.hid hK
  have HW := Lib.hid hw
  have hkl : (childs ⟨rs, l⟩ x).length ≤ 1000000 := by
    have h1 : ∀ ks : List Int, (∀ k ∈ ks, g k ≠ []) → ks.length ≤ (ks.flatMap g).length := by
      intro ks
      induction ks with
      | nil => intro _; simp
      | cons k r ih =>
        intro h
        have h2 := ih (fun j hj => h j (List.mem_cons_of_mem _ hj))
        have h3 : 0 < (g k).length := List.length_pos_iff.2 (h k (List.mem_cons_self ..))
        rw [List.flatMap_cons, List.length_append, List.length_cons]
        omega
    have h2 := h1 _ hgk
    rw [List.length_append] at hN
    omega
  generalize childs ⟨rs, l⟩ x = ks at KC HGK HN HK hkl ⊢
  obtain ⟨i0, hi, hz0, hz1, hz2⟩ := info_parts cinfoI
  clear hr hv hf hrl hgk hN hK hw
  obtain ⟨hd, hhd⟩ : ∃ hd, (if x = 0 then [] else [x]) = hd := ⟨_, rfl⟩
  rw [hhd] at HN ⊢
  have HHD := Lib.hid hhd
  clear hhd
  by_cases h0 : x = 0
  · have hhd : hd = [] := by rw [← HHD.out, if_pos h0]
    have hown1 : (w.alloc (.cells [rv, bv].toArray 25)).ownsRow (w.alloc (.cells [rv, bv].toArray 25)).heap.size 3 1 (.slice none 0 0) hd.length (hd.flatMap oneI) := by
      rw [hhd]
      exact World.ownsRow_nil _ _ _ _
    subst h0
    clear HHD hhd
    have hg1 := Grew.refl (w.alloc (.cells [rv, bv].toArray 25))
    have t0 := new_cell hg1 0 _ rfl
    have t1 := new_cell hg1 1 _ rfl
    go_enter Tryz.func85, Tryz.ntmps85
    go_wp2_with fail
    have HOWN1 := Lib.hid hown1
    have HG1 := Lib.hid hg1
    have HO1 := Lib.hid (Grew.trans ((Grew.refl w).alloc (.cells [rv, bv].toArray 25)) hg1)
    clear hown1 hg1
    refine (KC.out _ (HW.out.trans HO1.out)).mono ?_
    rintro e w2 ⟨v6, rfl, s6, g2, f6⟩
    obtain ⟨A6, c6, rfl, hl6, hc6, hr6⟩ := s6.open_
    unfold maxLen at hc6
    have HR0 := Lib.hid (show UnR (w.alloc (.cells [rv, bv].toArray 25)) (.slice A6 ks.length c6) ks hd g 0 (.slice none 0 0) w2 from ⟨HG1.out.trans g2, ⟨hd, by simp, own_later HOWN1.out g2⟩, s6, fun _ b hb hb6 => by have h1 := (HOWN1.out.lt b hb).2; have h2 := f6 b hb6; omega⟩)
    clear s6 f6 g2 t0 t1 hr6 HOWN1
    dsimp only
    go_wp2
    go_loopg [5, 7] ks.length (fun gg s5 s7 wr => ∃ k : Nat, k ≤ ks.length ∧ ks.length - k ≤ gg ∧ s7 = .int .i64 k ∧ Aside (UnR (w.alloc (.cells [rv, bv].toArray 25)) (.slice A6 ks.length c6) ks hd g k s5 wr))
    case atStart => exact ⟨0, by omega, by omega, rfl, (show Aside _ from HR0.out)⟩
    case round =>
      obtain ⟨k, hk, hgk, rfl, RW⟩ := hrel
      by_cases hlt : k < ks.length
      · have hltz : (k : Int) < (ks.length : Int) := by omega
        have h0z : (0 : Int) ≤ (k : Int) := by omega
        obtain ⟨gr, ⟨L, hL, own⟩, kids, off⟩ := RW.out
        obtain ⟨As, ns, cs, rfl⟩ := own_slice3 own
        obtain ⟨A7, c7, he7, -, -, hr7⟩ := kids.open_
        injection he7 with hA hn7 hc7
        subst hA hc7
        obtain ⟨b6, off6, rfl, hb6, hcell6⟩ := hr7 (by omega)
        have c0 := hcell6 wr (Grew.refl _) k hlt
        have t0 := new_cell gr 0 _ rfl
        have t1 := new_cell gr 1 _ rfl
        have kK := HK.out ks[k] (List.getElem_mem hlt)
        have hgne := List.length_pos_iff.2 (HGK.out ks[k] (List.getElem_mem hlt))
        have hnx := flat_next g ks k hlt
        have hlenN : L.length + (g ks[k]).length ≤ 1000000 := by
          have h1 := HN.out
          rw [flat_split g ks k hlt, ← List.append_assoc, hL, List.length_append, List.length_append] at h1
          omega
        have hL2 : hd ++ (ks.take (k + 1)).flatMap g = L ++ g ks[k] := by rw [hnx, ← List.append_assoc, hL]
        have HL2 := Lib.hid hL2
        clear hL hL2
        have HKIDS := Lib.hid kids
        have HOFF := Lib.hid off
        have HGR := Lib.hid gr
        have HOWN := Lib.hid own
        have HWW := Lib.hid (show Grew w0 wr from HW.out.trans (((Grew.refl w).alloc _).trans gr))
        have HNE : RowKit.Hid (∀ b, Value.ownBlock (.slice As ns cs) = some b → w.heap.size < b ∧ b ≠ b6) := fun b hb => ⟨by have := (own.lt b hb).1; simp at this; omega, fun e => off (by omega) b hb (by rw [e]; rfl)⟩
        have hsw := gr.size
        have T0 := Lib.hid t0
        have T1 := Lib.hid t1
        have C0 := Lib.hid c0
        clear gr own kids off hcell6 hr7 hnx
        generalize ks[k] = y at c0 C0 kK hgne hlenN HL2
        have HKK := Lib.hid kK
        clear kK c0 t0 t1
        go_wp2_with fail
        go_region_held3 (fun W => W.cell? ⟨w.heap.size, 0, none⟩ = some rv ∧ W.cell? ⟨w.heap.size, 1, none⟩ = some bv ∧ W.cell? ⟨b6, off6 + k, none⟩ = some (.int .i64 y) ∧ Grew (w.alloc (.cells [rv, bv].toArray 25)) W) (first | exact ⟨P0.out, P1.out, P2.out, P3.out⟩ | refine heldU wr _ T0.out T1.out C0.out HGR.out (by repeat (first | exact Grew.refl wr | exact GG9.out | refine Grew.drew ?_)))
          (first | (go_at_call 85; refine (HKK.out _ (HWW.out.trans (by repeat (first | exact Grew.refl wr | refine Grew.drew ?_)))).mono ?_; rintro e w3 ⟨v9, rfl, s9, g9, f9⟩; obtain ⟨A9, c9, rfl, hl9, hc9, hr9⟩ := s9.open_; unfold maxLen at hc9; obtain ⟨b9, o9, rfl, hb9, hcell9⟩ := hr9 hgne; have HS9 := Lib.hid s9; have GG9 := Lib.hid (show Grew wr w3 from Grew.trans (by repeat (first | exact Grew.refl wr | refine Grew.drew ?_)) g9); have HK9 := Lib.hid (HKIDS.out.mono GG9.out); have HOWN9 := Lib.hid (own_later HOWN.out GG9.out); have HGR9 := Lib.hid (HGR.out.trans GG9.out); have hsz := HGR9.out.size; clear hr9 s9 g9 f9 hcell9 HKK) | (refine step_append_lies _ (by rfl) (.tmp 23) (.tmp 29) 22 (by rfl) (w.alloc (.cells [rv, bv].toArray 25)).heap.size 3 i0 (.int .i64 0) 1 8 Tryz.underlying22 hi hz0 hz1 hz2 rfl (by omega) _ _ _ (by rfl) HOWN9.out ⟨b9, o9, none⟩ (g y).length c9 ((g y).flatMap oneI) (by rfl) (flatMap_len oneI 1 (fun _ => rfl) _) (cells_add HS9.out) (one_cellsI _) hgne (by unfold maxLen; omega) (by omega) hsz w3.heap.size rfl ?_; intro ga capa wa howna hgra hata hlta; have P0 := Lib.hid (hgra.cell (keep_cell GG9.out T0.out) (fun e => by have := (HNE.out _ e.symm).1; simp at this)); have P1 := Lib.hid (hgra.cell (keep_cell GG9.out T1.out) (fun e => by have := (HNE.out _ e.symm).1; simp at this)); have P2 := Lib.hid (hgra.cell (keep_cell GG9.out C0.out) (fun e => (HNE.out _ e.symm).2 rfl)); have P3 := Lib.hid (show Grew (w.alloc (.cells [rv, bv].toArray 25)) wa from Below.grown HGR9.out hgra hsz (fun b e => (HOWN9.out.lt b e).1)); have HR1 := Lib.hid (unStep HL2.out HGR9.out HOWN9.out HK9.out HOFF.out hgra howna hata); clear howna hgra hata hlta))
        go_wp2
        go_roundg (ks.length - (k + 1))
        case measure => omega
        case rel => exact ⟨k + 1, by omega, by omega, by go_num, (show Aside _ from HR1.out)⟩
      · have hltz : ¬ (k : Int) < (ks.length : Int) := by omega
        obtain rfl : k = ks.length := by omega
        obtain ⟨gr, ⟨L, hL, own⟩, -, -⟩ := RW.out
        rw [List.take_length] at hL
        have HLL := Lib.hid hL
        clear hL
        have HOWN := Lib.hid own
        have HGR := Lib.hid gr
        clear own gr
        go_wp2
        go_ret
        exact ⟨_, rfl, by rw [HLL.out]; exact Rd.of_own HOWN.out, ((Grew.refl w).alloc _).trans HGR.out, fun b hb => by have := (HOWN.out.lt b hb).1; simp at this; omega⟩
  · have h0' : (x != 0) = true := by simpa using h0
    have hhd : hd = [x] := by rw [← HHD.out, if_neg h0]
    have HHX := Lib.hid hhd
    clear h0 HHD hhd
    go_enter Tryz.func85, Tryz.ntmps85
    go_wp2_with (at_builtin; refine wpList_append_lies _ rfl _ _ 22 rfl (w.alloc (.cells [rv, bv].toArray 25)).heap.size 3 i0 (.int .i64 0) 1 8 Tryz.underlying22 hi hz0 hz1 hz2 rfl (by omega) _ 0 [] (by rfl) (World.ownsRow_nil _ _ _ _) ⟨w.heap.size + 1, 0, none⟩ 1 1 [.int .i64 x] (by rfl) rfl (fun j u hj => by rw [add_lit, Nat.zero_add]; have := new_cell (Grew.refl ((w.alloc (.cells [rv, bv].toArray 25)).alloc (.cells [Value.int .i64 x].toArray 3))) j u hj; rwa [World.size_alloc] at this) (by simp [Value.oneCell']) (by omega) (by unfold maxLen; omega) (by omega) (by simp) _ rfl ?_; intro ga1 cap1 w1 hown0 hgr1 hat1 hlt1; have hown1 : w1.ownsRow (w.alloc (.cells [rv, bv].toArray 25)).heap.size 3 1 (.slice (some ⟨ga1, 0, none⟩) 1 cap1) hd.length (hd.flatMap oneI) := (by rw [HHX.out]; exact hown0); clear hown0; have hg1 : Grew (w.alloc (.cells [rv, bv].toArray 25)) w1 := Below.grown ((Grew.refl _).alloc _) hgr1 (by simp) (fun k e => by simp [Value.ownBlock] at e); have t0 := new_cell hg1 0 _ rfl; have t1 := new_cell hg1 1 _ rfl; clear hgr1 hat1 hlt1)
    have HOWN1 := Lib.hid hown1
    have HG1 := Lib.hid hg1
    have HO1 := Lib.hid (Grew.trans ((Grew.refl w).alloc (.cells [rv, bv].toArray 25)) hg1)
    clear hown1 hg1
    refine (KC.out _ (HW.out.trans HO1.out)).mono ?_
    rintro e w2 ⟨v6, rfl, s6, g2, f6⟩
    obtain ⟨A6, c6, rfl, hl6, hc6, hr6⟩ := s6.open_
    unfold maxLen at hc6
    have HR0 := Lib.hid (show UnR (w.alloc (.cells [rv, bv].toArray 25)) (.slice A6 ks.length c6) ks hd g 0 (.slice (some ⟨ga1, 0, none⟩) 1 cap1) w2 from ⟨HG1.out.trans g2, ⟨hd, by simp, own_later HOWN1.out g2⟩, s6, fun _ b hb hb6 => by have h1 := (HOWN1.out.lt b hb).2; have h2 := f6 b hb6; omega⟩)
    clear s6 f6 g2 t0 t1 hr6 HOWN1
    dsimp only
    go_wp2
    go_loopg [5, 7] ks.length (fun gg s5 s7 wr => ∃ k : Nat, k ≤ ks.length ∧ ks.length - k ≤ gg ∧ s7 = .int .i64 k ∧ Aside (UnR (w.alloc (.cells [rv, bv].toArray 25)) (.slice A6 ks.length c6) ks hd g k s5 wr))
    case atStart => exact ⟨0, by omega, by omega, rfl, (show Aside _ from HR0.out)⟩
    case round =>
      obtain ⟨k, hk, hgk, rfl, RW⟩ := hrel
      by_cases hlt : k < ks.length
      · have hltz : (k : Int) < (ks.length : Int) := by omega
        have h0z : (0 : Int) ≤ (k : Int) := by omega
        obtain ⟨gr, ⟨L, hL, own⟩, kids, off⟩ := RW.out
        obtain ⟨As, ns, cs, rfl⟩ := own_slice3 own
        obtain ⟨A7, c7, he7, -, -, hr7⟩ := kids.open_
        injection he7 with hA hn7 hc7
        subst hA hc7
        obtain ⟨b6, off6, rfl, hb6, hcell6⟩ := hr7 (by omega)
        have c0 := hcell6 wr (Grew.refl _) k hlt
        have t0 := new_cell gr 0 _ rfl
        have t1 := new_cell gr 1 _ rfl
        have kK := HK.out ks[k] (List.getElem_mem hlt)
        have hgne := List.length_pos_iff.2 (HGK.out ks[k] (List.getElem_mem hlt))
        have hnx := flat_next g ks k hlt
        have hlenN : L.length + (g ks[k]).length ≤ 1000000 := by
          have h1 := HN.out
          rw [flat_split g ks k hlt, ← List.append_assoc, hL, List.length_append, List.length_append] at h1
          omega
        have hL2 : hd ++ (ks.take (k + 1)).flatMap g = L ++ g ks[k] := by rw [hnx, ← List.append_assoc, hL]
        have HL2 := Lib.hid hL2
        clear hL hL2
        have HKIDS := Lib.hid kids
        have HOFF := Lib.hid off
        have HGR := Lib.hid gr
        have HOWN := Lib.hid own
        have HWW := Lib.hid (show Grew w0 wr from HW.out.trans (((Grew.refl w).alloc _).trans gr))
        have HNE : RowKit.Hid (∀ b, Value.ownBlock (.slice As ns cs) = some b → w.heap.size < b ∧ b ≠ b6) := fun b hb => ⟨by have := (own.lt b hb).1; simp at this; omega, fun e => off (by omega) b hb (by rw [e]; rfl)⟩
        have hsw := gr.size
        have T0 := Lib.hid t0
        have T1 := Lib.hid t1
        have C0 := Lib.hid c0
        clear gr own kids off hcell6 hr7 hnx
        generalize ks[k] = y at c0 C0 kK hgne hlenN HL2
        have HKK := Lib.hid kK
        clear kK c0 t0 t1
        go_wp2_with fail
        go_region_held3 (fun W => W.cell? ⟨w.heap.size, 0, none⟩ = some rv ∧ W.cell? ⟨w.heap.size, 1, none⟩ = some bv ∧ W.cell? ⟨b6, off6 + k, none⟩ = some (.int .i64 y) ∧ Grew (w.alloc (.cells [rv, bv].toArray 25)) W) (first | exact ⟨P0.out, P1.out, P2.out, P3.out⟩ | refine heldU wr _ T0.out T1.out C0.out HGR.out (by repeat (first | exact Grew.refl wr | exact GG9.out | refine Grew.drew ?_)))
          (first | (go_at_call 85; refine (HKK.out _ (HWW.out.trans (by repeat (first | exact Grew.refl wr | refine Grew.drew ?_)))).mono ?_; rintro e w3 ⟨v9, rfl, s9, g9, f9⟩; obtain ⟨A9, c9, rfl, hl9, hc9, hr9⟩ := s9.open_; unfold maxLen at hc9; obtain ⟨b9, o9, rfl, hb9, hcell9⟩ := hr9 hgne; have HS9 := Lib.hid s9; have GG9 := Lib.hid (show Grew wr w3 from Grew.trans (by repeat (first | exact Grew.refl wr | refine Grew.drew ?_)) g9); have HK9 := Lib.hid (HKIDS.out.mono GG9.out); have HOWN9 := Lib.hid (own_later HOWN.out GG9.out); have HGR9 := Lib.hid (HGR.out.trans GG9.out); have hsz := HGR9.out.size; clear hr9 s9 g9 f9 hcell9 HKK) | (refine step_append_lies _ (by rfl) (.tmp 23) (.tmp 29) 22 (by rfl) (w.alloc (.cells [rv, bv].toArray 25)).heap.size 3 i0 (.int .i64 0) 1 8 Tryz.underlying22 hi hz0 hz1 hz2 rfl (by omega) _ _ _ (by rfl) HOWN9.out ⟨b9, o9, none⟩ (g y).length c9 ((g y).flatMap oneI) (by rfl) (flatMap_len oneI 1 (fun _ => rfl) _) (cells_add HS9.out) (one_cellsI _) hgne (by unfold maxLen; omega) (by omega) hsz w3.heap.size rfl ?_; intro ga capa wa howna hgra hata hlta; have P0 := Lib.hid (hgra.cell (keep_cell GG9.out T0.out) (fun e => by have := (HNE.out _ e.symm).1; simp at this)); have P1 := Lib.hid (hgra.cell (keep_cell GG9.out T1.out) (fun e => by have := (HNE.out _ e.symm).1; simp at this)); have P2 := Lib.hid (hgra.cell (keep_cell GG9.out C0.out) (fun e => (HNE.out _ e.symm).2 rfl)); have P3 := Lib.hid (show Grew (w.alloc (.cells [rv, bv].toArray 25)) wa from Below.grown HGR9.out hgra hsz (fun b e => (HOWN9.out.lt b e).1)); have HR1 := Lib.hid (unStep HL2.out HGR9.out HOWN9.out HK9.out HOFF.out hgra howna hata); clear howna hgra hata hlta))
        go_wp2
        go_roundg (ks.length - (k + 1))
        case measure => omega
        case rel => exact ⟨k + 1, by omega, by omega, by go_num, (show Aside _ from HR1.out)⟩
      · have hltz : ¬ (k : Int) < (ks.length : Int) := by omega
        obtain rfl : k = ks.length := by omega
        obtain ⟨gr, ⟨L, hL, own⟩, -, -⟩ := RW.out
        rw [List.take_length] at hL
        have HLL := Lib.hid hL
        clear hL
        have HOWN := Lib.hid own
        have HGR := Lib.hid gr
        clear own gr
        go_wp2
        go_ret
        exact ⟨_, rfl, by rw [HLL.out]; exact Rd.of_own HOWN.out, ((Grew.refl w).alloc _).trans HGR.out, fun b hb => by have := (HOWN.out.lt b hb).1; simp at this; omega⟩
end Go.Proofs.YtmbpeniaefpljaaGreatDoor

/- The reference's Below of a tree, walked; the program's Below without a condition on what it returns. The conditions: the library's own variables hold what they must; the lists are short; the marks no longer than a string can be. -/
namespace Go.Proofs.YtmbpeniaefpljaaGreatDoor
open Go.RowKit

theorem refUnder (rs : List Int) (l : List Br) (rv bv : Value) (w0 : World) (hr : SlI w0 rv rs) (hv : SlBr w0 bv l) (hf : FewBr l) (hrl : rs.length ≤ 1000000) (hT : RightT ⟨rs, l⟩) : ∀ (f : Nat) (b : Br) (d : Nat), b ∈ l → deep l l.length b = some d → l.length ≤ f + d → ∀ W, Grew w0 W →
    Calls Tryz.prog 85 #[.agg #[rv, bv], .int .i64 b.id] W (RetList (belowL ⟨rs, l⟩ f b.id) W) := by
  have hS := right_sound hT
  intro f
  induction f with
  | zero =>
    intro b d hb hd hfd W hG
    have hno : childs ⟨rs, l⟩ b.id = [] := by
      rw [List.eq_nil_iff_forall_not_mem]
      intro k hk
      obtain ⟨c, hc, hcp, _⟩ := (childs_mem hS (.inr ⟨b, hb, rfl⟩)).1 hk
      have h1 := deep_child hS hb hc hcp hd
      have h2 := deep_le hS.asc hc h1
      have h3 : (Tr.brs ⟨rs, l⟩).length = l.length := rfl
      omega
    have he : belowL ⟨rs, l⟩ 0 b.id = (if b.id = 0 then [] else [b.id]) ++ (childs ⟨rs, l⟩ b.id).flatMap (fun _ => []) := by
      rw [hno, if_neg (unit_pos (hS.units b hb))]
      rfl
    rw [he]
    exact refUnderBody rs l rv bv w0 hr hv hf hrl b.id _ (fun k hk => by rw [hno] at hk; cases hk) (by rw [hno]; split <;> simp) (fun k hk => by rw [hno] at hk; cases hk) W hG
  | succ f ih =>
    intro b d hb hd hfd W hG
    have hlen := belowL_len hS (f + 1) b d hb hd hfd
    have he : belowL ⟨rs, l⟩ (f + 1) b.id = (if b.id = 0 then [] else [b.id]) ++ (childs ⟨rs, l⟩ b.id).flatMap (belowL ⟨rs, l⟩ f) := by
      rw [if_neg (unit_pos (hS.units b hb))]
      rfl
    rw [he] at hlen ⊢
    refine refUnderBody rs l rv bv w0 hr hv hf hrl b.id (belowL ⟨rs, l⟩ f) (fun k _ => belowL_ne _ _ _) (by have h3 : (Tr.brs ⟨rs, l⟩).length = l.length := rfl; have := hf.1; omega) (fun k hk => ?_) W hG
    obtain ⟨c, hc, hcp, e⟩ := (childs_mem hS (.inr ⟨b, hb, rfl⟩)).1 hk
    rw [← e]
    exact ih c (d + 1) hc (deep_child hS hb hc hcp hd) (by omega)
theorem refUnderT (rs : List Int) (l : List Br) (rv bv : Value) (w0 : World) (hr : SlI w0 rv rs) (hv : SlBr w0 bv l) (hf : FewBr l) (hrl : rs.length ≤ 1000000) (hT : RightT ⟨rs, l⟩) (id : Int) (hid : id = 0 ∨ ∃ b, brFind l id = some b) (W : World) (hG : Grew w0 W) :
    Calls Tryz.prog 85 #[.agg #[rv, bv], .int .i64 id] W (RetList (belowT ⟨rs, l⟩ id) W) := by
  have hS := right_sound hT
  have hU := refUnder rs l rv bv w0 hr hv hf hrl hT
  have hlen := below_len hS id hid
  have h3 : (Tr.brs ⟨rs, l⟩).length = l.length := rfl
  have hfl := hf.1
  by_cases h0 : id = 0
  · subst h0
    have he : belowT ⟨rs, l⟩ 0 = (if (0 : Int) = 0 then [] else [0]) ++ (childs ⟨rs, l⟩ 0).flatMap (belowL ⟨rs, l⟩ l.length) := by
      rw [childs_zero]
      unfold belowT
      rw [if_pos rfl, if_pos rfl, List.nil_append]
    rw [he] at hlen ⊢
    refine refUnderBody rs l rv bv w0 hr hv hf hrl 0 (belowL ⟨rs, l⟩ l.length) (fun k _ => belowL_ne _ _ _) (by omega) (fun k hk => ?_) W hG
    rw [childs_zero] at hk
    obtain ⟨c, hc, _, e⟩ := (hS.roots.2 k).1 hk
    obtain ⟨d, hd, _⟩ := deep_some hS hc
    rw [← e]
    exact hU l.length c d hc hd (by omega)
  · obtain ⟨b, hb⟩ := hid.resolve_left h0
    have hin := find_in hb
    obtain ⟨d, hd, _⟩ := deep_some hS hin.1
    unfold belowT
    rw [if_neg h0, ← hin.2]
    exact hU l.length b d hin.1 hd (by omega) W hG
theorem RetList.is {r : List Int} {w w' : World} {v : Value} (h : SlI w' v r) (hg : Grew w w') : RetIs (r, 0) w (.returned (.tuple #[v, .int .i64 0])) w' := ⟨v, rfl, h, hg⟩
set_option maxHeartbeats 2000000 in
theorem refBelow (rs : List Int) (l : List Br) (id : Int) (rv bv : Value) (w : World) (hr : SlI w rv rs) (hv : SlBr w bv l) (hf : FewBr l) (hrl : rs.length ≤ 1000000) (hm : ∀ i (h : i < l.length), l[i].mark.size ≤ 9223372036854775807) :
    Calls Tryz.prog 57 #[.agg #[rv, bv], .int .i64 id] w (RetIs (belowR ⟨rs, l⟩ id) w) := by
  have HK := Lib.hid (fun W (hW : Grew w W) => refKnown rs l id true rv bv W (hr.mono hW) (hv.mono hW) hf hrl hm)
  have HU := Lib.hid (fun hT hid W (hG : Grew w W) => refUnderT rs l rv bv w hr hv hf hrl hT id hid W hG)
  have htop : topR l id = if ((brFind l id).isSome || (true && (id == 0))) then 0 else 7 := by
    unfold topR
    by_cases h0 : id = 0
    · simp [h0]
    · rw [if_neg h0]
      cases hb : brFind l id <;> simp [knownF, h0, hb]
  have HN : RowKit.Hid (∀ n : Int, (¬ RightT ⟨rs, l⟩ → n = 1) → (RightT ⟨rs, l⟩ → n = if ((brFind l id).isSome || (true && (id == 0))) then 0 else 7) → n ≠ 0 → belowR ⟨rs, l⟩ id = ([], n)) := fun n h1 h2 h3 => by
    unfold belowR
    by_cases hT : RightT ⟨rs, l⟩
    · have h4 := h2 hT
      rw [← htop] at h4
      rw [if_pos hT]
      show (if topR l id = 0 then (belowT ⟨rs, l⟩ id, (0 : Int)) else ([], topR l id)) = _
      rw [if_neg (by rw [← h4]; exact h3), h4]
    · rw [if_neg hT, h1 hT]
  have HZ : RowKit.Hid ((¬ RightT ⟨rs, l⟩ → (0 : Int) = 1) → (RightT ⟨rs, l⟩ → (0 : Int) = if ((brFind l id).isSome || (true && (id == 0))) then 0 else 7) → RightT ⟨rs, l⟩ ∧ (id = 0 ∨ ∃ b, brFind l id = some b) ∧ belowR ⟨rs, l⟩ id = (belowT ⟨rs, l⟩ id, 0)) := fun h1 h2 => by
    have hT : RightT ⟨rs, l⟩ := Classical.byContradiction fun h => by have := h1 h; omega
    have h4 := h2 hT
    rw [← htop] at h4
    refine ⟨hT, top_found h4.symm, ?_⟩
    unfold belowR
    rw [if_pos hT]
    show (if topR l id = 0 then (belowT ⟨rs, l⟩ id, (0 : Int)) else ([], topR l id)) = _
    rw [if_pos h4.symm]
  generalize belowR ⟨rs, l⟩ id = RES at HN HZ ⊢
  clear hr hv hf hrl hm htop
  go_enter Tryz.func57, Tryz.ntmps57
  go_wp2_with fail
  refine (HK.out _ ((Grew.refl w).alloc _)).mono ?_
  rintro e w1 ⟨n, rfl, h1, h2, g1⟩
  have t0 := new_cell g1 0 _ rfl
  have t1 := new_cell g1 1 _ rfl
  have HG := Lib.hid (((Grew.refl w).alloc _).trans g1)
  have H1 := Lib.hid h1
  have H2 := Lib.hid h2
  clear g1 h1 h2
  dsimp only
  by_cases hz : n = 0
  · subst hz
    obtain ⟨hT, hid, hb⟩ := HZ.out H1.out H2.out
    have KU := Lib.hid (HU.out hT hid)
    clear HU HN HZ H1 H2 HK
    generalize belowT ⟨rs, l⟩ id = L at KU hb
    subst hb
    clear hT hid
    go_wp2_with fail
    refine (KU.out _ HG.out).mono ?_
    rintro e w2 ⟨v2, rfl, s2, g2, -⟩
    have S2 := Lib.hid s2
    have HG2 := Lib.hid (HG.out.trans g2)
    clear s2 g2 t0 t1
    dsimp only
    go_wp2
    go_ret2
    exact RetList.is S2.out HG2.out
  · have hb := HN.out n H1.out H2.out hz
    subst hb
    have hz' : (n != 0) = true := by simpa using hz
    clear hz HN HZ HU
    go_wp2
    go_ret2
    exact ⟨_, rfl, SlI.nil _, HG.out⟩
end Go.Proofs.YtmbpeniaefpljaaGreatDoor
