/- Lemmas on what the functions of the program and of the library compute: J10. The conditions stand at each. -/
import Derived.Test.YtjaknioojpgkiaaGreatDoorQ34
import Derived.BigQuiet
/- The reference's Redundant of layer 28, walked. The condition: the lists are short. -/
namespace Go.Proofs.YtjaknioojpgkiaaGreatDoor
open Go.RowKit

def sameT (yt : ByteArray) : Option Val → Bool
  | none => false
  | some w => w.text.toList == yt.toList
theorem redB_ref (t : Tr) (vs : List Val) (v : Val) : redB t vs v = ((brFind t.brs v.unit).isSome && ((kindOf v.elem).inh && sameT v.text (foundF t.brs vs ((brFind t.brs v.unit).getD br0).parent v.elem v.lang))) := by
  unfold redB
  cases hb : brFind t.brs v.unit with
  | none => rfl
  | some b =>
    dsimp only [Option.isSome_some, Option.getD_some]
    rw [Bool.true_and]
    cases foundF t.brs vs b.parent v.elem v.lang <;> rfl
theorem five_all {W : World} {P : Nat} {t : TypeId} {x0 x1 x2 x3 x4 : Value} (h : W.heap[P]? = some (.cells #[x0, x1, x2, x3, x4] t (0, 0))) : (W.cell? ⟨P, 0, none⟩ = some x0 ∧ W.cell? ⟨P, 1, none⟩ = some x1 ∧ W.cell? ⟨P, 2, none⟩ = some x2 ∧ W.cell? ⟨P, 3, none⟩ = some x3 ∧ W.cell? ⟨P, 4, none⟩ = some x4) ∧ W.frozen? ⟨P, 0, none⟩ = false ∧ W.frozen? ⟨P, 1, none⟩ = false ∧ W.frozen? ⟨P, 2, none⟩ = false ∧ W.frozen? ⟨P, 3, none⟩ = false ∧ W.frozen? ⟨P, 4, none⟩ = false := by
  simp [World.cell?, World.frozen?, h]
/-- Behind `u, ok := Find(..)`: the unit lies in a box of its own. -/
def UnCut (W0 : World) (p : Int) (s : Bool) (s1 s2 : Value) (wx : World) : Prop := ∃ X, s1 = .pointer (some ⟨X, 0, none⟩) ∧ s2 = .bool s ∧ Aside (wx.cell? ⟨X, 1, none⟩ = some (.int .i64 p)) ∧ Aside (Grew W0 wx)
theorem un_meet {W0 W : World} {P : Nat} {v0 v2 v3 v4 z1 : Value} {p : Int} {s : Bool} (h1 : W.cell? ⟨P, 1, none⟩ = some z1) (hP : W0.heap.size ≤ P) (g : Grew W0 W) :
    UnCut W0 p s (.pointer (some ⟨P, 0, none⟩)) (.bool s) (((((W.setCell ⟨P, 0, none⟩ v0).setCell ⟨P, 1, none⟩ (.int .i64 p)).setCell ⟨P, 2, none⟩ v2).setCell ⟨P, 3, none⟩ v3).setCell ⟨P, 4, none⟩ v4) :=
  ⟨P, rfl, rfl, (show Aside _ from set5_one h1), (show Aside _ from ((((g.setCell hP _).setCell hP _).setCell hP _).setCell hP _).setCell hP _)⟩
theorem un_meet2 {W0 W : World} {v0 v2 v3 v4 : Value} {p : Int} {s : Bool} (g : Grew W0 W) :
    UnCut W0 p s (.pointer (some ⟨W.heap.size, 0, none⟩)) (.bool s) (W.alloc (.cells #[v0, .int .i64 p, v2, v3, v4] 54)) :=
  ⟨_, rfl, rfl, (show Aside _ from (five_cells (heap_newI W (.cells #[v0, .int .i64 p, v2, v3, v4] 54))).2.1), (show Aside _ from g.alloc _)⟩
theorem heldF (w1 W : World) {p0 p1 p2 p3 p4 : Addr} {y0 y1 y2 y3 y4 : Value} (a0 : w1.cell? p0 = some y0) (a1 : w1.cell? p1 = some y1) (a2 : w1.cell? p2 = some y2) (a3 : w1.cell? p3 = some y3) (a4 : w1.cell? p4 = some y4) (g : Grew w1 W) :
    W.cell? p0 = some y0 ∧ W.cell? p1 = some y1 ∧ W.cell? p2 = some y2 ∧ W.cell? p3 = some y3 ∧ W.cell? p4 = some y4 ∧ Grew w1 W := ⟨keep_cell g a0, keep_cell g a1, keep_cell g a2, keep_cell g a3, keep_cell g a4, g⟩
set_option maxHeartbeats 8000000 in
set_option maxRecDepth 100000 in
theorem refRedX (t : Tr) (ls : List ByteArray) (vs : List Val) (rv bv lv vv : Value) (w : World) (hr : SlI w rv t.roots) (hv : SlBr w bv t.brs) (hf : FewBr t.brs) (hrl : t.roots.length ≤ 1000000) (hm : ∀ i (h : i < t.brs.length), t.brs[i].mark.size ≤ 9223372036854775807) (hl : SlS w lv ls) (hvv : SlV w vv vs) (hfv : vs.length ≤ 1000000) :
    Calls Tryz.prog 54 #[.agg #[rv, bv], lv, vv] w (RetNL (redR t ls vs) w) := by
  have kR := fun W (hW : Grew w W) => refRightI t ls vs rv bv lv vv W (hr.mono hW) (hv.mono hW) hf hrl hm (hl.mono hW) (hvv.mono hW)
  have KF := Lib.hid (fun (h : ofI t ls vs = 0) (v : Val) W (hW : Grew w W) => refFound t vs ((brFind t.brs v.unit).getD br0).parent v.elem v.lang rv bv vv W (ofI_zero.1 h).1 (hr.mono hW) (hv.mono hW) (hvv.mono hW) (above_there (ofI_zero.1 h).1 v.unit))
  have KFI := Lib.hid (fun W x (hW : Grew w W) => refFind19 t.brs x rv bv W (hv.mono hW))
  have KI := Lib.hid (fun n W => refInherited_any n W)
  have HRB := Lib.hid (fun v => redB_ref t vs v)
  have hall : redF t vs = firstI (redP t vs) vs.length := rfl
  have HP := Lib.hid (fun i (h : i < vs.length) => redP_at (t := t) h)
  unfold redR
  rw [hall]
  generalize redP t vs = PP at HP ⊢
  generalize redB t vs = RB at HP HRB
  have H01 := Lib.hid (ofI_two t ls vs)
  generalize ofI t ls vs = N0 at kR KF H01 ⊢
  have KR := Lib.hid kR
  obtain ⟨Ar0, cr0, rfl, -⟩ := hr.open_
  obtain ⟨Ab0, cb0, rfl, -⟩ := hv.open_
  obtain ⟨Av0, cv0, rfl, hlc, hc, hcr⟩ := hvv.open_
  unfold maxLen at hc
  have HR := Lib.hid hcr
  clear kR hr hv hf hrl hm hl hvv hcr hall
  have HB := Lib.hid (show ∀ W, Grew (w.alloc (.cells #[.slice Ar0 t.roots.length cr0, .slice Ab0 t.brs.length cb0] 25)) W → W.heap[w.heap.size]? = some (.cells #[.slice Ar0 t.roots.length cr0, .slice Ab0 t.brs.length cb0] 25 (0, 0)) from fun W g => heap_keepI g (heap_newI w _))
  have GA := Lib.hid ((Grew.refl w).alloc (.cells #[.slice Ar0 t.roots.length cr0, .slice Ab0 t.brs.length cb0] 25))
  rcases H01.out with rfl | rfl
  · rw [if_pos rfl]
    obtain ⟨i0, hi, hz0, hz1, hz2⟩ := info_parts cinfoI
    have HK := Lib.hid (fun v W (hW : Grew w W) => KF.out (by first | rfl | trivial) v W hW)
    clear H01 KF
    unfold RetNL
    dsimp only
    go_enter Tryz.func54, Tryz.ntmps54
    go_wp2_with fail
    generalize w.alloc (.cells #[.slice Ar0 t.roots.length cr0, .slice Ab0 t.brs.length cb0] 25) = WA at GA HB ⊢
    refine (KR.out _ GA.out).mono ?_
    rintro e w5 ⟨rfl, g5⟩
    have G5 := Lib.hid g5
    have HG5 := Lib.hid (GA.out.trans g5)
    clear g5 KR
    dsimp only
    go_wp2_with fail
    go_loopg [8, 9] vs.length (fun gg s8 s9 wr => ∃ k : Nat, k ≤ vs.length ∧ vs.length - k ≤ gg ∧ s9 = .int .i64 (k : Int) ∧ Aside (wr.ownsRow w5.heap.size 3 1 s8 (firstI PP k).length ((firstI PP k).flatMap oneI)) ∧ Aside (Grew w5 wr))
    case atStart => exact ⟨0, by omega, by omega, rfl, (show Aside _ from World.ownsRow_nil _ _ _ _), (show Aside _ from Grew.refl _)⟩
    case round =>
      obtain ⟨k, hk, hgk, rfl, OW, GW⟩ := hrel
      have HG := Lib.hid (HG5.out.trans GW.out)
      have GAW := Lib.hid (G5.out.trans GW.out)
      by_cases hlt : k < vs.length
      · have hltz : (k : Int) < (vs.length : Int) := by omega
        have h0z : (0 : Int) ≤ (k : Int) := by omega
        obtain ⟨b, off, rfl, hb, hcell⟩ := HR.out (by omega)
        obtain ⟨c0, c1, c2, c3⟩ := hcell wr HG.out k hlt
        have hlen := firstI_len PP k
        have hpk := HP.out k hlt
        have HCY := Lib.hid (show ∀ W, Grew w W → _ from fun W g => hcell W g k hlt)
        clear hcell
        generalize vs[k] = y at c0 c1 c2 c3 hpk HCY
        obtain ⟨yu, ye, yl, yt⟩ := y
        have hrb := HRB.out ⟨yu, ye, yl, yt⟩
        have hkk := HK.out ⟨yu, ye, yl, yt⟩
        have kfi := fun W hW => KFI.out W yu hW
        unfold TFindEnd at kfi
        dsimp only at c0 c1 c2 c3 hrb hkk HCY
        generalize (brFind t.brs yu).getD br0 = ub at hrb hkk kfi
        generalize (brFind t.brs yu).isSome = us at hrb kfi
        obtain ⟨bi, bp, bl, bt, bm, bk⟩ := ub
        dsimp only at hrb hkk kfi
        generalize RB ⟨yu, ye, yl, yt⟩ = rb at hpk hrb
        generalize foundF t.brs vs bp ye yl = o at hrb hkk
        have ki := KI.out ye
        generalize (kindOf ye).inh = inh at hrb ki
        have HPK := Lib.hid (hpk.trans hrb)
        have HKK := Lib.hid hkk
        have KFY := Lib.hid kfi
        have KIY := Lib.hid ki
        obtain ⟨x0, x1⟩ := two_cells (HB.out _ GAW.out)
        clear hpk hrb hkk kfi ki
        go_wp2
        go_cut [10, 11] from 25 to 34 (fun s10 s11 wx => UnCut wr bp us s10 s11 wx)
        case first =>
          as_aux_lemma =>
            go_region_held3 (fun W => W.cell? ⟨w.heap.size, 0, none⟩ = some (.slice Ar0 t.roots.length cr0) ∧ W.cell? ⟨w.heap.size, 1, none⟩ = some (.slice Ab0 t.brs.length cb0) ∧ W.cell? ⟨b, off + k * 4, none⟩ = some (.int .i64 yu) ∧ Grew wr W) (refine heldKid wr _ _ _ _ x0 x1 c0 (by repeat (with_reducible first | exact Grew.refl wr | exact GQ.out | refine Grew.drew ?_ | refine Grew.alloc ?_ _ | refine Grew.setCell ?_ (by first | exact Nat.le_refl _ | exact GQ.out.size | simp) _))) ((go_at_call 61; refine (KFY.out _ (HG.out.trans (by repeat (with_reducible first | exact Grew.refl wr | refine Grew.drew ?_ | refine Grew.alloc ?_ _)))).mono ?_; rintro e wq ⟨rfl, gq⟩; have GQ := Lib.hid (show Grew wr wq from Grew.trans (by repeat (with_reducible first | exact Grew.refl wr | refine Grew.drew ?_ | refine Grew.alloc ?_ _)) gq); (try (have hdr : Grew (wr.alloc (.cells [.int .i64 0, .int .i64 0, .int .i64 0, .string ⟨#[]⟩, .string ⟨#[]⟩].toArray 54)).drew wq := (by with_reducible exact gq); have qq := five_all (heap_keepI (Grew.trans (Grew.refl _).drew hdr) (heap_newI wr (.cells [.int .i64 0, .int .i64 0, .int .i64 0, .string ⟨#[]⟩, .string ⟨#[]⟩].toArray 54))); obtain ⟨⟨q0, q1, q2, q3, q4⟩, z0, z1, z2, z3, z4⟩ := qq)); clear gq))
            all_goals go_wp2_with fail
            all_goals go_meet
            all_goals with_reducible first | exact un_meet2 GQ.out | exact un_meet q1 (Nat.le_refl _) GQ.out
        case rest =>
          as_aux_lemma =>
            obtain ⟨U, rfl, rfl, u1, GC⟩ := hcut
            have u1 := u1.out
            clear x0 x1 c0 c1 c2 c3 KFY
            obtain ⟨c0, c1, c2, c3⟩ := HCY.out _ (HG.out.trans GC.out)
            obtain ⟨x0, x1⟩ := two_cells (HB.out _ (GAW.out.trans GC.out))
            cases us with
            | false =>
              have HN := Lib.hid (firstI_no HPK.out)
              have OW3 := Lib.hid (own_keep OW.out GC.out)
              have GW3 := Lib.hid (GW.out.trans GC.out)
              clear HPK HKK
              go_wp2
              go_roundg (vs.length - (k + 1))
              case measure => omega
              case rel => exact ⟨k + 1, by omega, by omega, by go_num, (show Aside _ by rw [HN.out]; exact OW3.out), (show Aside _ from GW3.out)⟩
            | true =>
              cases inh with
              | false =>
                have HN := Lib.hid (firstI_no HPK.out)
                have OW3 := Lib.hid (own_keep OW.out GC.out)
                have GW3 := Lib.hid (GW.out.trans GC.out)
                clear HPK HKK
                go_wp2_with (go_at_call 66; refine (KIY.out _).mono ?_; rintro e w3 ⟨rfl, rfl⟩)
                go_roundg (vs.length - (k + 1))
                case measure => omega
                case rel => exact ⟨k + 1, by omega, by omega, by go_num, (show Aside _ by rw [HN.out]; exact OW3.out), (show Aside _ from GW3.out)⟩
              | true =>
                have hpk := HPK.out
                rw [Bool.true_and, Bool.true_and] at hpk
                have kf := HKK.out
                unfold RetV at kf
                generalize hos : o.isSome = s at kf
                generalize hox : o.getD val0 = x at kf
                have HO := Lib.hid (And.intro hos hox)
                have HPK2 := Lib.hid hpk
                clear hos hox hpk HPK HKK
                obtain ⟨xu, xe, xl, xt⟩ := x
                unfold Val.agg at kf
                dsimp only at kf
                have KFV := Lib.hid kf
                clear kf
                go_wp2_with (go_at_call 66; refine (KIY.out _).mono ?_; rintro e w3 ⟨rfl, rfl⟩)
                go_cut [12, 13] from 46 to 63 (fun s12 s13 wx => ValCut wc xu xe xl xt s s12 s13 wx)
                case first =>
                  as_aux_lemma =>
                    go_region_held3 (fun W => W.cell? ⟨w.heap.size, 0, none⟩ = some (.slice Ar0 t.roots.length cr0) ∧ W.cell? ⟨w.heap.size, 1, none⟩ = some (.slice Ab0 t.brs.length cb0) ∧ W.cell? ⟨U, 1, none⟩ = some (.int .i64 bp) ∧ W.cell? ⟨b, off + k * 4 + 1, none⟩ = some (.int .i64 ye) ∧ W.cell? ⟨b, off + k * 4 + 2, none⟩ = some (.string yl) ∧ Grew wc W) (refine heldF wc _ x0 x1 u1 c1 c2 (by repeat (with_reducible first | exact Grew.refl wc | exact GQ.out | refine Grew.drew ?_ | refine Grew.alloc ?_ _ | refine Grew.setCell ?_ (by first | exact Nat.le_refl _ | exact GQ.out.size | simp) _))) ((go_at_call 109; refine (KFV.out _ ((HG.out.trans GC.out).trans (by repeat (with_reducible first | exact Grew.refl wc | refine Grew.drew ?_ | refine Grew.alloc ?_ _)))).mono ?_; rintro e wq ⟨rfl, gq⟩; have GQ := Lib.hid (show Grew wc wq from Grew.trans (by repeat (with_reducible first | exact Grew.refl wc | refine Grew.drew ?_ | refine Grew.alloc ?_ _)) gq); (try (have hdr : Grew (wc.alloc (.cells [.int .i64 0, .int .i64 0, .string ⟨#[]⟩, .string ⟨#[]⟩].toArray 29)).drew wq := (by with_reducible exact gq); have qq := four_cells (heap_keepI (Grew.trans (Grew.refl _).drew hdr) (heap_newI wc (.cells [.int .i64 0, .int .i64 0, .string ⟨#[]⟩, .string ⟨#[]⟩].toArray 29))); obtain ⟨⟨q0, q1, q2, q3⟩, z0, z1, z2, z3⟩ := qq)); clear gq))
                    all_goals go_wp2_with fail
                    all_goals go_meet
                    all_goals with_reducible first | exact val_meet2 GQ.out | exact val_meet q0 q1 q2 q3 (Nat.le_refl _) GQ.out
                case rest =>
                  as_aux_lemma =>
                    have GC1 := Lib.hid GC.out
                    clear GC
                    rename_i wd
                    obtain ⟨V, rfl, rfl, v0, v1, v2, v3, GD⟩ := hcut
                    have v3 := v3.out
                    have GCD := Lib.hid (GC1.out.trans GD.out)
                    have GW3 := Lib.hid (GW.out.trans GCD.out)
                    have OW3 := Lib.hid (own_keep OW.out GCD.out)
                    clear v0 v1 v2 x0 x1 u1 c0 c1 c2 c3 KFV GC1
                    obtain ⟨c0, c1, c2, c3⟩ := HCY.out _ (HG.out.trans GCD.out)
                    obtain ⟨ho, hx⟩ := HO.out
                    cases o with
                    | none =>
                      obtain rfl : s = false := ho.symm
                      have HN := Lib.hid (firstI_no (HPK2.out.trans (rfl : sameT yt none = false)))
                      clear hx ho HPK2 HO
                      go_wp2
                      go_quiet (fail)
                      go_wp2
                      go_roundg (vs.length - (k + 1))
                      case measure => omega
                      case rel => exact ⟨k + 1, by omega, by omega, by go_num, (show Aside _ by rw [HN.out]; exact OW3.out), (show Aside _ from GW3.out.drewN _)⟩
                    | some z =>
                      obtain rfl : s = true := ho.symm
                      obtain rfl : z = ⟨xu, xe, xl, xt⟩ := hx
                      clear HO ho
                      cases hcmp : (xt.toList == yt.toList) with
                      | false =>
                        have HN := Lib.hid (firstI_no (HPK2.out.trans (show sameT yt (some ⟨xu, xe, xl, xt⟩) = false from hcmp)))
                        clear HPK2
                        go_wp2
                        go_quiet (fail)
                        go_wp2
                        go_roundg (vs.length - (k + 1))
                        case measure => omega
                        case rel => exact ⟨k + 1, by omega, by omega, by go_num, (show Aside _ by rw [HN.out]; exact OW3.out), (show Aside _ from GW3.out.drewN _)⟩
                      | true =>
                        have HN := Lib.hid (firstI_yes (HPK2.out.trans (show sameT yt (some ⟨xu, xe, xl, xt⟩) = true from hcmp)))
                        clear HPK2
                        go_wp2
                        go_quiet (fail)
                        go_wp2_with (at_builtin; refine appR rfl _ _ 22 rfl w5 3 i0 (.int .i64 0) 1 8 Tryz.underlying22 hi hz0 hz1 hz2 rfl (by omega) _ _ _ (by rfl) _ (own_keep OW3.out (((Grew.refl _).drewN _).alloc _)) ((GW3.out.drewN _).alloc _) _ 1 [.int .i64 (k : Int)] (by rfl) (rd_lit _ rfl _ (by simp)) rfl (by simp [Value.oneCell']) (by unfold maxLen; omega) (by omega) ?_; intro v8 w8 hown8 hg8 _)
                        have OW8 : Aside _ := hown8
                        have G8 : Aside _ := hg8
                        clear hown8 hg8
                        go_wp2
                        go_roundg (vs.length - (k + 1))
                        case measure => omega
                        case rel =>
                          refine ⟨k + 1, by omega, by omega, by go_num, (show Aside _ from ?_), (show Aside _ from ?_)⟩
                          · rw [HN.out, List.flatMap_append, List.length_append]
                            exact OW8.out
                          · exact G8.out
      · have hltz : ¬ (k : Int) < (vs.length : Int) := by omega
        obtain rfl : k = vs.length := by omega
        have OWE := Lib.hid OW.out
        clear OW
        go_wp2
        go_ret2
        exact ⟨_, rfl, own_base OWE.out HG5.out.size, HG.out⟩
  · rw [if_neg (by decide)]
    clear H01 KF
    unfold RetNL
    dsimp only
    go_enter Tryz.func54, Tryz.ntmps54
    go_wp2_with fail
    generalize w.alloc (.cells #[.slice Ar0 t.roots.length cr0, .slice Ab0 t.brs.length cb0] 25) = WA at GA HB ⊢
    refine (KR.out _ GA.out).mono ?_
    rintro e w5 ⟨rfl, g5⟩
    have HG5 := Lib.hid (GA.out.trans g5)
    clear g5 KR
    dsimp only
    go_wp2_with fail
    go_ret2
    exact ⟨_, rfl, World.ownsRow_nil _ _ _ _, HG5.out⟩
end Go.Proofs.YtjaknioojpgkiaaGreatDoor
