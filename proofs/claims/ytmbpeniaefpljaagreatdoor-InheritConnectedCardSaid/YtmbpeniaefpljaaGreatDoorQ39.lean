/- Lemmas on what the functions of the program and of the library compute: J8. The conditions stand at each. -/
import Derived.Test.YtmbpeniaefpljaaGreatDoorQ37
import Derived.Test.YtmbpeniaefpljaaGreatDoorQ30
import Derived.Test.YtmbpeniaefpljaaGreatDoorQ38
/- The reference's Reach of layer 28, walked. The condition: the lists are short. -/
namespace Go.Proofs.YtmbpeniaefpljaaGreatDoor
open Go.RowKit

/-- What of the first units is picked. -/
def pickI (P : Int → Bool) (L : List Int) (k : Nat) : List Int := (L.take k).filter P
theorem pickI_all (P : Int → Bool) (L : List Int) : pickI P L L.length = L.filter P := by unfold pickI; rw [List.take_length]
theorem pickI_len (P : Int → Bool) (L : List Int) (k : Nat) : (pickI P L k).length ≤ k := Nat.le_trans (List.length_filter_le _ _) (by rw [List.length_take]; omega)
theorem pickI_yes {P : Int → Bool} {L : List Int} {k : Nat} (h : k < L.length) (hp : P L[k] = true) : pickI P L (k + 1) = pickI P L k ++ [L[k]] := by
  unfold pickI
  rw [List.take_succ_eq_append_getElem h, List.filter_append]
  simp [hp]
theorem pickI_no {P : Int → Bool} {L : List Int} {k : Nat} (h : k < L.length) (hp : P L[k] = false) : pickI P L (k + 1) = pickI P L k := by
  unfold pickI
  rw [List.take_succ_eq_append_getElem h, List.filter_append]
  simp [hp]
theorem ofI_two (t : Tr) (ls : List ByteArray) (vs : List Val) : ofI t ls vs = 0 ∨ ofI t ls vs = 1 := by
  unfold ofI
  split
  · exact .inl rfl
  · exact .inr rfl
theorem ask_bad {t : Tr} {ls : List ByteArray} {vs : List Val} {u n : Int} {lang : ByteArray} (h : ofI t ls vs = 1) : askI t ls vs u n lang = 1 := by
  unfold askI
  rw [h]
  rfl
theorem below_all {t : Tr} (hT : RightT t) : belowR ⟨t.roots, t.brs⟩ 0 = (belowT t 0, 0) := by
  unfold belowR
  rw [if_pos (show RightT ⟨t.roots, t.brs⟩ from hT), if_pos (by unfold topR; rw [if_pos rfl])]
set_option maxHeartbeats 8000000 in
set_option maxRecDepth 100000 in
theorem refReachX (t : Tr) (ls : List ByteArray) (vs : List Val) (u n : Int) (lang : ByteArray) (rv bv lv vv : Value) (w : World) (hr : SlI w rv t.roots) (hv : SlBr w bv t.brs) (hf : FewBr t.brs) (hrl : t.roots.length ≤ 1000000) (hm : ∀ i (h : i < t.brs.length), t.brs[i].mark.size ≤ 9223372036854775807) (hl : SlS w lv ls) (hvv : SlV w vv vs) :
    Calls Tryz.prog 21 #[.agg #[rv, bv], lv, vv, .int .i64 u, .int .i64 n, .string lang] w (RetNL (reachR t ls vs u n lang) w) := by
  have kR := fun W (hW : Grew w W) => refRightI t ls vs rv bv lv vv W (hr.mono hW) (hv.mono hW) hf hrl hm (hl.mono hW) (hvv.mono hW)
  have kA := fun W (hW : Grew w W) => refAskedI t ls vs u n lang rv bv lv vv W (hr.mono hW) (hv.mono hW) hf hrl hm (hl.mono hW) (hvv.mono hW)
  have kF := fun (h : askI t ls vs u n lang = 0) x (hx : x ∈ belowT t 0) W (hW : Grew w W) => refFound t vs x n lang rv bv vv W (askI_zero.1 h).1.1 (hr.mono hW) (hv.mono hW) (hvv.mono hW) (.inr (below_there (askI_zero.1 h).1.1 hx))
  have kB := fun (h : askI t ls vs u n lang = 0) W (hW : Grew w W) => (show Calls Tryz.prog 57 #[.agg #[rv, bv], .int .i64 0] W (RetIs (belowT t 0, 0) W) by rw [← below_all (askI_zero.1 h).1.1]; exact refBelow t.roots t.brs 0 rv bv W (hr.mono hW) (hv.mono hW) hf hrl hm)
  have HLL := Lib.hid (fun h : askI t ls vs u n lang = 0 => (Nat.le_trans (below_len (right_sound (askI_zero.1 h).1.1) 0 (.inl rfl)) hf.1 : (belowT t 0).length ≤ 1000000))
  have H01 := Lib.hid (ofI_two t ls vs)
  have HZ := Lib.hid (fun h : askI t ls vs u n lang = 0 => ofI_zero.2 (askI_zero.1 h).1)
  have HBAD := Lib.hid (fun h : ofI t ls vs = 1 => ask_bad (t := t) (ls := ls) (vs := vs) (u := u) (n := n) (lang := lang) h)
  unfold reachR
  rw [reachF_rq]
  obtain ⟨FF, hFF⟩ : ∃ FF : Int → Option Val, FF = fun x => foundF t.brs vs x n lang := ⟨_, rfl⟩
  have kF2 := fun h x hx W hW => (show Calls Tryz.prog 50 #[.agg #[rv, bv], vv, .int .i64 x, .int .i64 n, .string lang] W (RetV (FF x) W) by rw [hFF]; exact kF h x hx W hW)
  have hpp : (belowT t 0).filter (fun x => rq u (foundF t.brs vs x n lang)) = (belowT t 0).filter (fun x => rq u (FF x)) := by rw [hFF]
  rw [hpp]
  clear hpp hFF kF
  obtain ⟨PP, hPP⟩ : ∃ PP : Int → Bool, PP = fun x => rq u (FF x) := ⟨_, rfl⟩
  rw [← hPP]
  have HPP := Lib.hid (show ∀ x, PP x = rq u (FF x) from fun x => by rw [hPP])
  clear hPP
  have KF := Lib.hid kF2
  have KB := Lib.hid kB
  clear kF2 kB
  generalize belowT t 0 = L at KF KB HLL ⊢
  generalize askI t ls vs u n lang = N at kA KF KB HLL HZ HBAD ⊢
  have KA := Lib.hid kA
  clear kA
  generalize ofI t ls vs = N0 at kR H01 HZ HBAD
  have KR := Lib.hid kR
  obtain ⟨Ar0, cr0, rfl, -⟩ := hr.open_
  obtain ⟨Ab0, cb0, rfl, -⟩ := hv.open_
  clear kR hr hv hf hrl hm hl hvv
  have HB := Lib.hid (show ∀ W, Grew (w.alloc (.cells #[.slice Ar0 t.roots.length cr0, .slice Ab0 t.brs.length cb0] 25)) W → W.heap[w.heap.size]? = some (.cells #[.slice Ar0 t.roots.length cr0, .slice Ab0 t.brs.length cb0] 25 (0, 0)) from fun W g => heap_keepI g (heap_newI w _))
  have GA := Lib.hid ((Grew.refl w).alloc (.cells #[.slice Ar0 t.roots.length cr0, .slice Ab0 t.brs.length cb0] 25))
  rcases H01.out with rfl | rfl
  · by_cases hz : N = 0
    · subst hz
      rw [if_pos rfl]
      obtain ⟨i0, hi, hz0, hz1, hz2⟩ := info_parts cinfoI
      have HKB := Lib.hid (fun W (hW : Grew w W) => KB.out (by first | rfl | trivial) W hW)
      have HKF := Lib.hid (fun x hx W (hW : Grew w W) => KF.out (by first | rfl | trivial) x hx W hW)
      have hll : L.length ≤ 1000000 := HLL.out (by first | rfl | trivial)
      unfold RetIs at HKB
      dsimp only at HKB
      clear KB KF HLL HZ HBAD H01
      unfold RetNL
      dsimp only
      go_enter Tryz.func21, Tryz.ntmps21
      go_wp2_with fail
      generalize w.alloc (.cells #[.slice Ar0 t.roots.length cr0, .slice Ab0 t.brs.length cb0] 25) = WA at GA HB ⊢
      refine (KR.out _ GA.out).mono ?_
      rintro e w4 ⟨rfl, g4⟩
      have G4 := Lib.hid g4
      have HG4 := Lib.hid (GA.out.trans g4)
      obtain ⟨x0, x1⟩ := two_cells (HB.out _ g4)
      clear g4 KR
      dsimp only
      go_wp2_with fail
      refine (KA.out _ HG4.out).mono ?_
      rintro e w6 ⟨rfl, g6⟩
      have G6 := Lib.hid (G4.out.trans g6)
      clear x0 x1
      obtain ⟨x0, x1⟩ := two_cells (HB.out _ G6.out)
      clear g6 KA G4 HG4
      dsimp only
      go_wp2_with fail
      refine (HKB.out _ (GA.out.trans G6.out)).mono ?_
      rintro e w5 ⟨v5, rfl, hs5, g5⟩
      obtain ⟨A5, c5, rfl, hlc, hc, hcr⟩ := hs5.open_
      unfold maxLen at hc
      have HR := Lib.hid hcr
      have G5 := Lib.hid (G6.out.trans g5)
      have HG5 := Lib.hid (GA.out.trans G5.out)
      clear hs5 hcr g5 HKB x0 x1
      dsimp only
      go_wp2_with fail
      go_loopg [17, 18] L.length (fun gg s17 s18 wr => ∃ k : Nat, k ≤ L.length ∧ L.length - k ≤ gg ∧ s18 = .int .i64 (k : Int) ∧ Aside (wr.ownsRow w5.heap.size 3 1 s17 (pickI PP L k).length ((pickI PP L k).flatMap oneI)) ∧ Aside (Grew w5 wr))
      case atStart => exact ⟨0, by omega, by omega, rfl, (show Aside _ from World.ownsRow_nil _ _ _ _), (show Aside _ from Grew.refl _)⟩
      case round =>
        obtain ⟨k, hk, hgk, rfl, OW, GW⟩ := hrel
        have HG := Lib.hid (HG5.out.trans GW.out)
        obtain ⟨x0, x1⟩ := two_cells (HB.out _ (G5.out.trans GW.out))
        by_cases hlt : k < L.length
        · have hltz : (k : Int) < (L.length : Int) := by omega
          have h0z : (0 : Int) ≤ (k : Int) := by omega
          obtain ⟨bb, off, rfl, hbb, hcell⟩ := HR.out (by omega)
          have c0 := hcell wr GW.out k hlt
          have hlen := pickI_len PP L k
          have HYES := Lib.hid (fun h => pickI_yes (P := PP) hlt h)
          have HNO := Lib.hid (fun h => pickI_no (P := PP) hlt h)
          have kf := fun W (hW : Grew w W) => HKF.out L[k] (List.getElem_mem hlt) W hW
          have hpk := HPP.out L[k]
          have HCY := Lib.hid (show ∀ W, Grew wr W → W.cell? ⟨bb, off + k, none⟩ = some (.int .i64 L[k]) from fun W g => keep_cell g c0)
          clear hcell
          generalize L[k] = y at c0 kf hpk HYES HNO HCY
          generalize FF y = o at kf hpk
          unfold RetV at kf
          generalize hos : o.isSome = s at kf
          generalize hox : o.getD val0 = x at kf
          have HO := Lib.hid (And.intro hos hox)
          have HPK := Lib.hid hpk
          clear hos hox hpk
          obtain ⟨xu, xe, xl, xt⟩ := x
          unfold Val.agg at kf
          dsimp only at kf
          have KFY := Lib.hid kf
          clear kf
          go_wp2
          go_cut [19, 20] from 47 to 58 (fun s19 s20 wx => ValCut wr xu xe xl xt s s19 s20 wx)
          case first =>
            as_aux_lemma =>
              go_region_held3 (fun W => W.cell? ⟨w.heap.size, 0, none⟩ = some (.slice Ar0 t.roots.length cr0) ∧ W.cell? ⟨w.heap.size, 1, none⟩ = some (.slice Ab0 t.brs.length cb0) ∧ W.cell? ⟨bb, off + k, none⟩ = some (.int .i64 y) ∧ Grew wr W) (refine heldKid wr _ _ _ _ x0 x1 c0 (by repeat (with_reducible first | exact Grew.refl wr | exact GQ.out | refine Grew.drew ?_ | refine Grew.alloc ?_ _ | refine Grew.setCell ?_ (by first | exact Nat.le_refl _ | exact GQ.out.size | simp) _))) ((go_at_call 50; refine (KFY.out _ (HG.out.trans (by repeat (with_reducible first | exact Grew.refl wr | refine Grew.drew ?_ | refine Grew.alloc ?_ _)))).mono ?_; rintro e wq ⟨rfl, gq⟩; have GQ := Lib.hid (show Grew wr wq from Grew.trans (by repeat (with_reducible first | exact Grew.refl wr | refine Grew.drew ?_ | refine Grew.alloc ?_ _)) gq); (try (have hdr : Grew (wr.alloc (.cells [.int .i64 0, .int .i64 0, .string ⟨#[]⟩, .string ⟨#[]⟩].toArray 31)).drew wq := (by with_reducible exact gq); have qq := four_cells (heap_keepI (Grew.trans (Grew.refl _).drew hdr) (heap_newI wr (.cells [.int .i64 0, .int .i64 0, .string ⟨#[]⟩, .string ⟨#[]⟩].toArray 31))); obtain ⟨⟨q0, q1, q2, q3⟩, z0, z1, z2, z3⟩ := qq)); clear gq))
              all_goals go_wp2_with fail
              all_goals go_meet
              all_goals with_reducible first | exact val_meet2 GQ.out | exact val_meet q0 q1 q2 q3 (Nat.le_refl _) GQ.out
          case rest =>
            as_aux_lemma =>
              obtain ⟨U, rfl, rfl, u0, u1, u2, u3, GC⟩ := hcut
              have u0 := u0.out
              clear u1 u2 u3 x0 x1 c0 KFY
              have c0 := HCY.out _ GC.out
              have G2 := Lib.hid (GW.out.trans GC.out)
              have OW2 := Lib.hid (own_keep OW.out GC.out)
              obtain ⟨ho, hx⟩ := HO.out
              cases o with
              | none =>
                obtain rfl : s = false := ho.symm
                clear hx ho u0
                have HN := Lib.hid (HNO.out (HPK.out.trans (rfl : rq u none = false)))
                clear HYES HNO HPK HO c0
                go_wp2
                go_roundg (L.length - (k + 1))
                case measure => omega
                case rel => exact ⟨k + 1, by omega, by omega, by go_num, (show Aside _ by rw [HN.out]; exact OW2.out), (show Aside _ from G2.out)⟩
              | some z =>
                obtain rfl : s = true := ho.symm
                obtain rfl : z = ⟨xu, xe, xl, xt⟩ := hx
                cases hq : (xu == u) with
                | false =>
                  have hqf : ¬ xu = u := by simpa using hq
                  have HN := Lib.hid (HNO.out (HPK.out.trans (show rq u (some ⟨xu, xe, xl, xt⟩) = false from hq)))
                  clear HYES HNO HPK HO c0
                  go_wp2
                  go_roundg (L.length - (k + 1))
                  case measure => omega
                  case rel => exact ⟨k + 1, by omega, by omega, by go_num, (show Aside _ by rw [HN.out]; exact OW2.out), (show Aside _ from G2.out)⟩
                | true =>
                  have hqt : xu = u := by simpa using hq
                  have HN := Lib.hid (HYES.out (HPK.out.trans (show rq u (some ⟨xu, xe, xl, xt⟩) = true from hq)))
                  clear HYES HNO HPK HO
                  go_wp2_with (at_builtin; refine appR rfl _ _ 22 rfl w5 3 i0 (.int .i64 0) 1 8 Tryz.underlying22 hi hz0 hz1 hz2 rfl (by omega) _ _ _ (by rfl) _ (own_keep OW2.out ((Grew.refl _).alloc _)) (G2.out.alloc _) _ 1 [.int .i64 y] (by rfl) (rd_lit _ rfl _ (by simp)) rfl (by simp [Value.oneCell']) (by unfold maxLen; omega) (by omega) ?_; intro v8 w8 hown8 hg8 _)
                  have OW8 : Aside _ := hown8
                  have G8 : Aside _ := hg8
                  clear hown8 hg8
                  go_wp2
                  go_roundg (L.length - (k + 1))
                  case measure => omega
                  case rel =>
                    refine ⟨k + 1, by omega, by omega, by go_num, (show Aside _ from ?_), (show Aside _ from ?_)⟩
                    · rw [HN.out, List.flatMap_append, List.length_append]
                      exact OW8.out
                    · exact G8.out
        · have hltz : ¬ (k : Int) < (L.length : Int) := by omega
          obtain rfl : k = L.length := by omega
          have OWE := Lib.hid OW.out
          rw [pickI_all] at OWE
          clear OW x0 x1
          go_wp2
          go_ret2
          exact ⟨_, rfl, own_base OWE.out HG5.out.size, HG.out⟩
    · rw [if_neg hz]
      have hb : (N != 0) = true := by simpa using hz
      clear KB KF HLL HZ HBAD H01
      unfold RetNL
      dsimp only
      go_enter Tryz.func21, Tryz.ntmps21
      go_wp2_with fail
      generalize w.alloc (.cells #[.slice Ar0 t.roots.length cr0, .slice Ab0 t.brs.length cb0] 25) = WA at GA HB ⊢
      refine (KR.out _ GA.out).mono ?_
      rintro e w4 ⟨rfl, g4⟩
      have G4 := Lib.hid g4
      have HG4 := Lib.hid (GA.out.trans g4)
      obtain ⟨x0, x1⟩ := two_cells (HB.out _ g4)
      clear g4 KR
      dsimp only
      go_wp2_with fail
      refine (KA.out _ HG4.out).mono ?_
      rintro e w6 ⟨rfl, g6⟩
      replace HG4 := Lib.hid (HG4.out.trans g6)
      clear g6 KA
      dsimp only
      go_wp2_with fail
      go_ret2
      exact ⟨_, rfl, World.ownsRow_nil _ _ _ _, HG4.out⟩
  · obtain rfl := HBAD.out rfl
    rw [if_neg (by decide)]
    clear KB KF HLL HZ HBAD H01 KA
    unfold RetNL
    dsimp only
    go_enter Tryz.func21, Tryz.ntmps21
    go_wp2_with fail
    generalize w.alloc (.cells #[.slice Ar0 t.roots.length cr0, .slice Ab0 t.brs.length cb0] 25) = WA at GA HB ⊢
    refine (KR.out _ GA.out).mono ?_
    rintro e w4 ⟨rfl, g4⟩
    have G4 := Lib.hid g4
    have HG4 := Lib.hid (GA.out.trans g4)
    obtain ⟨x0, x1⟩ := two_cells (HB.out _ g4)
    clear g4 KR
    dsimp only
    go_wp2_with fail
    go_ret2
    exact ⟨_, rfl, World.ownsRow_nil _ _ _ _, HG4.out⟩
end Go.Proofs.YtmbpeniaefpljaaGreatDoor
