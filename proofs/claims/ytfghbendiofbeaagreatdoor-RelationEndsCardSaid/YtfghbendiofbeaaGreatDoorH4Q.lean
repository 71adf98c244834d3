/- relation.Holders, walked, with a word on whose the returned row is. The conditions: the library's own variables hold what they must; the lists are short. -/
import Derived.Test.YtfghbendiofbeaaGreatDoorQ11
import Derived.Sort.OwnSortedInts
namespace Go.Proofs.YtfghbendiofbeaaGreatDoor
open Go.RowKit Go.Maps Go.Sort

theorem own_base {w : World} {b b' : Nat} {e : TypeId} {k : Nat} {v : Value} {n : Nat} {xs : List Value} (hb : b' ≤ b) (h : w.ownsRow b e k v n xs) : w.ownsRow b' e k v n xs := by
  rcases h.2 with h0 | ⟨g, cap, cur, h1, h2, h3⟩
  · exact ⟨h.1, .inl h0⟩
  · exact ⟨h.1, .inr ⟨g, cap, cur, h1, Nat.le_trans hb h2, h3⟩⟩
/-- slices.Sort on a row of the call's own, which stays its own. -/
theorem sort_ownW (l : List Int) (w0 : World) (e : TypeId) (v : Value) (w : World) (hown : w.ownsRow w0.heap.size e 1 v l.length (l.flatMap oneI)) (hg : Grew w0 w) (hl : l.length ≤ 1000000) :
    Calls Tryz.prog 91 #[v] w fun en w' => en = .returned (.tuple #[]) ∧ w'.ownsRow w0.heap.size e 1 v (sortI l).length ((sortI l).flatMap oneI) ∧ Grew w0 w' := by
  rcases Nat.eq_zero_or_pos l.length with h0 | h0
  · obtain rfl : l = [] := List.eq_nil_of_length_eq_zero h0
    have hv : ∃ A c, v = .slice A 0 c := by
      rcases hown.2 with ⟨rfl, _⟩ | ⟨g, cap, cur, rfl, _⟩
      · exact ⟨_, _, rfl⟩
      · exact ⟨_, _, rfl⟩
    obtain ⟨A, c, rfl⟩ := hv
    refine (Tryz.slices_Sort_int_none A c w).mono ?_
    rintro en w' ⟨rfl, rfl⟩
    refine ⟨rfl, ?_, hg⟩
    rw [show sortI [] = [] by simp [sortI]]
    exact hown
  · have hH0 := hown
    rcases hown.2 with ⟨_, hz⟩ | ⟨g, cap, cur, rfl, hbg, hh, h1, h2, h3, h4⟩
    · omega
    have hlt : g < w.heap.size := (Array.getElem?_eq_some_iff.1 hh).1
    have hH := holdsI_of_own hH0
    refine (Tryz.slices_Sort_int g 0 cap l w hH hlt (by omega)).mono ?_
    rintro en w' ⟨rfl, n, os, rfl⟩
    have hl2 : (sortI l).length = l.length := (List.mergeSort_perm l _).length_eq
    refine ⟨rfl, ?_, grew_sortedI hbg hg _ _ _⟩
    rw [flat_int, hl2]
    exact ownsRow_sortedI hl2 hbg hh h1 h2 h3
def RetSlW (r : List Int) (w : World) (e : Ending) (w' : World) : Prop := ∃ v, e = .returned v ∧ w'.ownsRow w.heap.size 3 1 v r.length (r.flatMap oneI) ∧ Grew w w'
def RetRowW (r : List Int × Int) (w : World) (e : Ending) (w' : World) : Prop := ∃ v, e = .returned (.tuple #[v, .int .i64 r.2]) ∧ w'.ownsRow w.heap.size 3 1 v r.1.length (r.1.flatMap oneI) ∧ Grew w w'
set_option maxHeartbeats 4000000 in
set_option maxRecDepth 100000 in
theorem rHoldersInW (l : List Rel) (u r d : Int) (lv : Value) (w : World) (hl : SlR w lv l) (hll : l.length ≤ 1000000) (hw : ∀ x ∈ l, (Lit.int .i64 x.auth).wf = true) :
    Calls Tryz.prog 61 #[lv, .int .i64 u, .int .i64 r, .int .i64 d] w (RetSlW (holdersF l u r d) w) := by
  have hmm := @run_makeMap Tryz.prog
  obtain ⟨A, c, rfl, hlc, hc, hr⟩ := hl.open_
  unfold maxLen at hc
  have HR := Lib.hid hr
  have HWF := Lib.hid (fun i (hi : i < l.length) => hw l[i] (List.getElem_mem hi))
  have HT := Lib.hid (authsOn_take l u r d)
  have HL := Lib.hid (fun k => authsOn_len (l.take k) u r d)
  have HFin := Lib.hid (sortI_auths l u r d)
  obtain ⟨i0, hi, hz0, hz1, hz2⟩ := info_parts cinfoI
  clear hl hr hw
  generalize hH : holdersF l u r d = HF at HFin ⊢
  clear hH
  go_enter Tryz.func61, Tryz.ntmps61
  go_wp2
  go_loopg [17] l.length (fun gg s17 wr => ∃ kk : Nat, kk ≤ l.length ∧ l.length - kk ≤ gg ∧ s17 = .int .i64 kk ∧ Aside (wr.ownsMap Tryz.prog 3 (plainElem Tryz.prog 4) w.heap.size kk (setInts (authsOn (l.take kk) u r d))) ∧ Aside (Grew w wr))
  case atStart => exact ⟨0, by omega, by omega, rfl, (show Aside _ from World.ownsMap_made _ _ _ _), (show Aside _ from (Grew.refl w).alloc _)⟩
  case round =>
    obtain ⟨kk, hkk, hgk, rfl, OW, BW⟩ := hrel
    by_cases hlt : kk < l.length
    case neg =>
      have hltz : ¬ (kk : Int) < (l.length : Int) := by omega
      obtain rfl : kk = l.length := by omega
      rw [List.take_length] at OW
      have hsz := OW.out.size_le
      generalize authsOn l u r d = K0 at OW HFin hsz
      go_wp2_with (at_range; refine wpList_range_own _ rfl _ 115 rfl 3 4 keyedI Tryz.underlying115 _ w.heap.size l.length _ rfl OW.out ?_; intro w0 hrg0 hg0 hs0)
      have HRG := Lib.hid hrg0
      have HG0 := Lib.hid (show Grew w w0 from Below.grown BW.out hg0 BW.out.size (fun k hk => by cases hk))
      have HS0 := Lib.hid (show w.heap.size ≤ wr.heap.size from BW.out.size)
      clear hrg0 hg0 hs0
      generalize wr.heap.size = r0 at HRG HS0
      go_loopg [12] (Maps.size (setInts K0)) (fun gg s12 wx => ∃ left cnt ks, cnt ≤ gg ∧ Aside (wx.ranges Tryz.prog 3 (plainElem Tryz.prog 4) w.heap.size r0 l.length (setInts K0) left cnt) ∧ Aside (wx.ownsRow w.heap.size 3 1 s12 ks.length (ks.flatMap oneI)) ∧ Aside (CollI (setInts K0) left ks) ∧ ks.length + cnt ≤ Maps.size (setInts K0) ∧ Aside (Grew w wx))
      case atStart => exact ⟨_, _, [], Nat.le_refl _, HRG.out, (show Aside _ from World.ownsRow_nil _ _ _ _), (show Aside _ from CollI.start _), by simp, HG0.out⟩
      case round =>
        obtain ⟨left, cnt, ks, hcg, RG, OR, CO, hcs, GX⟩ := hrel
        go_wp2_with (at_next; refine wpList_next_ranges _ rfl _ rfl 3 keyedI (plainElem Tryz.prog 4) (Value.int .i64) (fun v : Value => v) (fun key kl hk => by obtain ⟨x, hx, _⟩ := Maps.keyOf_int_inv Tryz.underlying3 hk; exact ⟨x, hx⟩) (fun v y hv => ⟨v, rfl⟩) w.heap.size r0 l.length _ _ _ rfl RG.out ?_ ?_)
        · intro hc0 hl0
          have hd := CO.out.done hl0
          have HD := Lib.hid (HFin.out ks hd.1 hd.2)
          have KS := Lib.hid (sort_ownW ks w _ _ wr OR.out GX.out (by omega))
          clear hd hl0
          go_wp2_with fail
          refine KS.out.mono ?_
          rintro e w4 ⟨rfl, hs4, g4⟩
          rw [HD.out] at hs4
          have HS4 := Lib.hid hs4
          clear hs4
          dsimp only
          go_wp2
          go_ret
          exact ⟨_, rfl, HS4.out, g4⟩
        · intro x c kl yd yp w2 cnt2 hkey hlk hv hat hrg2 hlt2 hg2 hs2 hen
          obtain ⟨x', ex, rfl, _⟩ := Maps.keyOf_int_inv Tryz.underlying3 hkey
          obtain rfl : x = x' := by injection ex
          have OR2 := Lib.hid (OR.out.kept hg2 (Or.inr (row_ne_iter OR.out RG.out).symm))
          have RG2 := Lib.hid hrg2
          have CO2 := Lib.hid (CO.out.step hlk hat)
          have GX2 := Lib.hid (grew_turned GX.out hg2 HS0.out)
          have hm : ks.length + 1 ≤ 1000000 := by omega
          clear hs2 hg2 hrg2 hat hlk hv hkey ex
          go_wp2_with (at_builtin; refine wpList_append_own _ rfl _ _ 43 rfl w.heap.size 3 i0 (.int .i64 0) 1 8 Tryz.underlying43 hi hz0 hz1 hz2 rfl (by decide) _ _ _ rfl (OR2.out.alloc _) ⟨w2.heap.size, 0, none⟩ 1 1 [.int .i64 x] rfl rfl (cell_one_new _ _ _) (by simp [Value.oneCell']) (by unfold maxLen; omega) (by omega) (by have := GX2.out.size; simp; omega) ?_; intro v' w3 hown' hg3 hnil3)
          have RG3 := Lib.hid ((RG2.out.alloc _).kept hg3 (row_ne_map OR2.out RG2.out.owns) (row_ne_iter OR2.out RG2.out))
          have GX3 := Lib.hid (show Grew w w3 from Below.grown (GX2.out.alloc _) hg3 (by have := GX2.out.size; simp; omega) (fun k hk => (OR2.out.lt k hk).1))
          have OR3 := Lib.hid hown'
          clear hown' hg3 hnil3
          go_roundg cnt2
          case measure => omega
          case rel => exact ⟨_, cnt2, ks ++ [x], Nat.le_refl _, RG3.out, (show Aside _ from by rw [List.flatMap_append, List.length_append]; exact OR3.out), CO2.out, by simp; omega, GX3.out⟩
    have hltz : (kk : Int) < (l.length : Int) := by omega
    obtain ⟨b, off, rfl, hb, hcell⟩ := HR.out (by omega)
    obtain ⟨c0, c1, c2, c3, c4⟩ := hcell wr BW.out kk hlt
    have ht := HT.out kk hlt
    have hlen := HL.out kk
    have hwf := HWF.out kk hlt
    rw [List.length_take] at hlen
    generalize hU2 : authsOn (l.take (kk + 1)) u r d = U2 at ht
    have HU2 := Lib.hid hU2
    generalize authsOn (l.take kk) u r d = U at ht hlen OW
    unfold relOn at ht
    generalize l[kk] = y at ht c0 c1 c2 c3 c4 hwf
    obtain ⟨yu, yr, ya, yf, yn⟩ := y
    dsimp only at ht c0 c1 c2 c3 c4 hwf
    have kI := rIn yf yn d
    generalize inF yf yn d = q at kI ht
    have KI := Lib.hid kI
    have HKey := Lib.hid (keyOf_int_mk (P := Tryz.prog) Tryz.underlying3 hwf)
    have HT2 := Lib.hid ht
    clear kI hU2 ht hwf hcell
    have HRel := Lib.hid (fun (V : Value) (W : World) (kn : Nat) (hk : kn = kk + 1) (O : W.ownsMap Tryz.prog 3 (plainElem Tryz.prog 4) w.heap.size kn (setInts U2)) (G : Grew w W) (hV : V = .int .i64 (kk + 1 : Nat)) => (⟨kk + 1, by omega, by omega, hV, (show Aside _ from by subst hk; rw [HU2.out]; exact O), (show Aside _ from G)⟩ : ∃ k2 : Nat, k2 ≤ l.length ∧ l.length - k2 ≤ l.length - (kk + 1) ∧ V = .int .i64 k2 ∧ Aside (W.ownsMap Tryz.prog 3 (plainElem Tryz.prog 4) w.heap.size k2 (setInts (authsOn (l.take k2) u r d))) ∧ Aside (Grew w W)))
    cases hq1 : (yu == u)
    · have hE : U2 = U := by rw [HT2.out, hq1]; simp
      subst hE
      go_wp2
      go_roundg (l.length - (kk + 1))
      case measure => omega
      case rel => exact HRel.out _ _ _ rfl ((OW.out.alloc _).mono (by omega)) (BW.out.alloc _) (by go_num)
    cases hq2 : (yr == r)
    · have hE : U2 = U := by rw [HT2.out, hq1, hq2]; simp
      subst hE
      go_wp2
      go_roundg (l.length - (kk + 1))
      case measure => omega
      case rel => exact HRel.out _ _ _ rfl ((OW.out.alloc _).mono (by omega)) (BW.out.alloc _) (by go_num)
    cases q
    · have hE : U2 = U := by rw [HT2.out, hq1, hq2]; simp
      subst hE
      go_wp2_with fail
      refine (KI.out _).mono ?_
      rintro e w1 ⟨rfl, g1⟩
      have HG1 := Lib.hid g1
      clear g1
      dsimp only
      go_wp2
      go_roundg (l.length - (kk + 1))
      case measure => omega
      case rel => exact HRel.out _ _ _ rfl ((map_later (OW.out.alloc _) HG1.out).mono (by omega)) ((BW.out.alloc _).trans HG1.out) (by go_num)
    · have HE : RowKit.Hid (U2 = U ++ [ya]) := by
        show U2 = U ++ [ya]
        rw [HT2.out, hq1, hq2]; simp
      go_wp2_with fail
      refine (KI.out _).mono ?_
      rintro e w1 ⟨rfl, g1⟩
      have e2 := new_cell g1 2 _ rfl
      have HG1 := Lib.hid g1
      clear g1
      dsimp only
      go_wp2_with (at_mapUpdate; refine wpList_mapUpdate_own _ rfl _ _ _ 115 rfl 3 4 keyedI Tryz.underlying115 (plainElem (H := Unit) Tryz.prog 4) w.heap.size kk _ rfl (map_later (OW.out.alloc _) HG1.out) (by unfold maxLen; omega) _ _ _ rfl rfl HKey.out _ [] (plainElem_bool Tryz.underlying4 true) ?_; intro w2 hown2 hgrow2)
      have OW2 := Lib.hid hown2
      have HG2 := Lib.hid (grew_turned ((BW.out.alloc _).trans HG1.out) hgrow2 (Nat.le_refl _))
      clear hown2 hgrow2
      go_wp2
      go_roundg (l.length - (kk + 1))
      case measure => omega
      case rel => exact HRel.out _ _ _ rfl (by rw [HE.out, setInts_snoc]; exact OW2.out) HG2.out (by go_num)
set_option maxHeartbeats 4000000 in
theorem rHoldersW (a : List Auth) (l : List Rel) (u r d : Int) (av lv : Value) (w : World) (hE : Env w) (ha : SlAu w av a) (hf : FewAu a) (hl : SlR w lv l) (hll : l.length ≤ 1000000) :
    Calls Tryz.prog 24 #[av, lv, .int .i64 u, .int .i64 r, .int .i64 d] w (RetRowW (holdersR a l u r d) w) := by
  have kA := rAsks a l av lv w hE ha hf hl
  have kR := rRanged r d
  have kH : orF [asksF a l, rangedF r d] = 0 → ∀ W, Grew w W → Calls Tryz.prog 61 #[lv, .int .i64 u, .int .i64 r, .int .i64 d] W (RetSlW (holdersF l u r d) W) := fun h W hW => rHoldersInW l u r d lv W (hl.mono hW) hll (right_wf (asks_right.1 (or2_zero h).1))
  unfold holdersR
  generalize asksF a l = q0 at kA kH ⊢
  generalize rangedF r d = q1 at kR kH ⊢
  generalize hz : orF [q0, q1] = z at kH ⊢
  have hfr : ∀ W : World, SlI (W.alloc (.cells #[.int .i64 q0, .int .i64 q1] 30)) (.slice (some ⟨W.heap.size, 0, none⟩) 2 2) [q0, q1] := fun W => Rd.fresh W _ 1 2 [.int .i64 q0, .int .i64 q1] rfl (by decide)
  have KO := Lib.hid (fun W => cmpOrE_any [q0, q1] _ _ (hfr W))
  rw [hz] at KO
  have KA := Lib.hid kA
  have KR := Lib.hid kR
  have KH := Lib.hid kH
  generalize holdersF l u r d = HF at KH ⊢
  obtain ⟨A1, c1, rfl, -, -, -⟩ := hl.open_
  clear kA kR kH hE ha hf hl hz hfr hll
  by_cases h0 : z = 0
  case neg =>
    have hz0 : (z != 0) = true := by simpa using h0
    rw [if_pos h0]
    clear h0
    go_enter Tryz.func24, Tryz.ntmps24
    go_wp2_with fail
    refine KA.out.mono ?_
    rintro e w1 ⟨rfl, g1⟩
    have HG1 := Lib.hid g1
    clear g1
    dsimp only
    go_wp2_with fail
    refine (KR.out _).mono ?_
    rintro e w2 ⟨rfl, rfl⟩
    dsimp only
    go_wp2_with fail
    refine (KO.out _).mono ?_
    rintro e w3 ⟨rfl, rfl⟩
    dsimp only
    go_wp2
    go_ret2
    exact ⟨_, rfl, World.ownsRow_nil _ _ _ _, HG1.out.alloc _⟩
  subst h0
  simp only [ne_eq, not_true_eq_false, if_false]
  go_enter Tryz.func24, Tryz.ntmps24
  go_wp2_with fail
  refine KA.out.mono ?_
  rintro e w1 ⟨rfl, g1⟩
  have HG1 := Lib.hid g1
  clear g1
  dsimp only
  go_wp2_with fail
  refine (KR.out _).mono ?_
  rintro e w2 ⟨rfl, rfl⟩
  dsimp only
  go_wp2_with fail
  refine (KO.out _).mono ?_
  rintro e w3 ⟨rfl, rfl⟩
  dsimp only
  go_wp2_with fail
  refine (KH.out (by first | rfl | trivial) _ (HG1.out.alloc _)).mono ?_
  rintro e w4 ⟨v4, rfl, hs4, g4⟩
  have HS4 := Lib.hid hs4
  clear hs4
  dsimp only
  go_wp2
  go_ret2
  exact ⟨_, rfl, own_base (HG1.out.alloc _).size HS4.out, (HG1.out.alloc _).trans g4⟩
end Go.Proofs.YtfghbendiofbeaaGreatDoor
