/- Lemmas on what the functions of the program and of the library compute: IE. The conditions stand at each. -/
import Derived.Test.YtjaknioojpgkiaaGreatDoorQ26
/- inherit.Redundant, walked. The conditions: the library's own variables hold what they must; the lists are short. -/
namespace Go.Proofs.YtjaknioojpgkiaaGreatDoor
open Go.RowKit

/-- The first indices for which P holds. -/
def firstI (P : Nat → Bool) (k : Nat) : List Int := ((List.range k).filter P).map fun (i : Nat) => (i : Int)
theorem firstI_succ (P : Nat → Bool) (k : Nat) : firstI P (k + 1) = firstI P k ++ (if P k then [(k : Int)] else []) := by
  unfold firstI
  rw [List.range_succ, List.filter_append, List.map_append]
  congr 1
  cases h : P k <;> simp [h]
theorem firstI_len (P : Nat → Bool) (k : Nat) : (firstI P k).length ≤ k := by
  unfold firstI
  rw [List.length_map]
  refine Nat.le_trans (List.length_filter_le _ _) ?_
  simp
theorem firstI_no {P : Nat → Bool} {k : Nat} (h : P k = false) : firstI P (k + 1) = firstI P k := by rw [firstI_succ, h]; simp
theorem firstI_yes {P : Nat → Bool} {k : Nat} (h : P k = true) : firstI P (k + 1) = firstI P k ++ [(k : Int)] := by rw [firstI_succ, h]; simp
theorem flat_oneI_snoc (l : List Int) (x : Int) : l.flatMap oneI ++ [.int .i64 x] = (l ++ [x]).flatMap oneI := by simp [List.flatMap_append, oneI]
theorem five_cells {W : World} {P : Nat} {t : TypeId} {x0 x1 x2 x3 x4 : Value} (h : W.heap[P]? = some (.cells #[x0, x1, x2, x3, x4] t (0, 0))) : W.cell? ⟨P, 0, none⟩ = some x0 ∧ W.cell? ⟨P, 1, none⟩ = some x1 ∧ W.cell? ⟨P, 2, none⟩ = some x2 ∧ W.cell? ⟨P, 3, none⟩ = some x3 ∧ W.cell? ⟨P, 4, none⟩ = some x4 := by
  simp [World.cell?, h]
def redP (t : Tr) (vs : List Val) (i : Nat) : Bool := match vs[i]? with
  | none => false
  | some v => redB t vs v
theorem redP_at {t : Tr} {vs : List Val} {i : Nat} (h : i < vs.length) : redP t vs i = redB t vs vs[i] := by
  unfold redP
  rw [List.getElem?_eq_getElem h]
/-- A value that repeats nothing: it is not inherited, or its unit is at the top, or is none. -/
theorem redB_top {t : Tr} (hT : RightT t) {vs : List Val} {v : Val} (h : (!(kindOf v.elem).inh || ((brFind t.brs v.unit).getD br0).parent == 0) = true) : redB t vs v = false := by
  unfold redB
  cases hb : brFind t.brs v.unit with
  | none => rfl
  | some b =>
    rw [hb] at h
    dsimp only [Option.getD_some] at h
    cases hi : (kindOf v.elem).inh with
    | false => simp
    | true =>
      rw [hi] at h
      have h0 : b.parent = 0 := by simpa using h
      dsimp only
      rw [h0, found_zero hT]
      simp
theorem redB_above {t : Tr} {vs : List Val} {v : Val} (h : (!(kindOf v.elem).inh || ((brFind t.brs v.unit).getD br0).parent == 0) = false) : redB t vs v = match foundF t.brs vs ((brFind t.brs v.unit).getD br0).parent v.elem v.lang with
    | none => false
    | some w => w.text.toList == v.text.toList := by
  unfold redB
  cases hb : brFind t.brs v.unit with
  | none =>
    rw [hb] at h
    simp [br0] at h
  | some b =>
    rw [hb] at h
    dsimp only [Option.getD_some] at h ⊢
    have hi : (kindOf v.elem).inh = true := by
      cases hi : (kindOf v.elem).inh with
      | false => rw [hi] at h; simp at h
      | true => rfl
    rw [hi, Bool.true_and]
    cases foundF t.brs vs b.parent v.elem v.lang <;> rfl
theorem above_there {t : Tr} (hT : RightT t) (u : Int) : ((brFind t.brs u).getD br0).parent = 0 ∨ ∃ b, brFind t.brs ((brFind t.brs u).getD br0).parent = some b := by
  cases hb : brFind t.brs u with
  | none => exact .inl rfl
  | some b => exact up_parent hT b (find_in hb).1
/-- A call that returns a list of numbers in a row of its own, and an error. -/
def RetNL (r : List Int × Int) (w : World) (e : Ending) (w' : World) : Prop := ∃ v, e = .returned (.tuple #[v, .int .i64 r.2]) ∧ w'.ownsRow w.heap.size 3 1 v r.1.length (r.1.flatMap oneI) ∧ Grew w w'
set_option maxHeartbeats 8000000 in
set_option maxRecDepth 100000 in
theorem iRedX (t : Tr) (ls : List ByteArray) (vs : List Val) (rv bv lv vv : Value) (w : World) (hE : Env w) (hr : SlI w rv t.roots) (hv : SlBr w bv t.brs) (hf : FewBr t.brs) (hrl : t.roots.length ≤ 1000000) (hl : SlS w lv ls) (hvv : SlV w vv vs) (hfv : vs.length ≤ 1000000) :
    Calls Tryz.prog 27 #[.agg #[rv, bv], lv, vv] w (RetNL (redR t ls vs) w) := by
  have kA := fun W (hW : Grew w W) => iOfAsk t ls vs rv bv lv vv W (hE.mono hW) (hr.mono hW) (hv.mono hW) hf hrl (hl.mono hW) (hvv.mono hW)
  have KF := Lib.hid (fun (h : ofI t ls vs = 0) (v : Val) rv' bv' lv' vv' W (hv' : SlBr W bv' t.brs) (hvv' : SlV W vv' vs) => iFound t vs ((brFind t.brs v.unit).getD br0).parent v.elem v.lang rv' bv' lv' vv' W (ofI_zero.1 h).1 hv' hvv' (above_there (ofI_zero.1 h).1 v.unit))
  have HR1 := Lib.hid (fun (h : ofI t ls vs = 0) (v : Val) hc => redB_top (ofI_zero.1 h).1 (vs := vs) (v := v) hc)
  have HR2 := Lib.hid (fun (v : Val) hc => redB_above (t := t) (vs := vs) (v := v) hc)
  have KFI := Lib.hid (fun W x (hW : Grew w W) => tFind t.brs x rv bv W (hv.mono hW))
  have KI := Lib.hid (fun n W => inherited_any n W)
  have hall : redF t vs = firstI (redP t vs) vs.length := rfl
  have HP := Lib.hid (fun i (h : i < vs.length) => redP_at (t := t) h)
  unfold redR
  rw [hall]
  unfold RetOA at kA
  generalize redP t vs = PP at HP ⊢
  generalize redB t vs = RB at HP HR1 HR2
  have h01 : ofI t ls vs = 0 ∨ ofI t ls vs = 1 := by
    unfold ofI
    split
    · exact .inl rfl
    · exact .inr rfl
  generalize ofI t ls vs = N0 at kA KF HR1 h01 ⊢
  have KA := Lib.hid kA
  obtain ⟨Ar0, cr0, rfl, -⟩ := hr.open_
  obtain ⟨Ab0, cb0, rfl, -⟩ := hv.open_
  obtain ⟨Av0, cv0, rfl, hlc, hc, hcr⟩ := hvv.open_
  unfold maxLen at hc
  have HR := Lib.hid hcr
  clear kA hE hr hv hf hrl hl hvv hcr hall
  have HB := Lib.hid (show ∀ W, Grew (w.alloc (.cells [.slice Ar0 t.roots.length cr0, .slice Ab0 t.brs.length cb0].toArray 25)) W → W.heap[w.heap.size]? = some (.cells #[.slice Ar0 t.roots.length cr0, .slice Ab0 t.brs.length cb0] 25 (0, 0)) from fun W g => heap_keepI g (heap_newI w _))
  have GA := Lib.hid ((Grew.refl w).alloc (.cells [.slice Ar0 t.roots.length cr0, .slice Ab0 t.brs.length cb0].toArray 25))
  by_cases hz : N0 = 0
  · subst hz
    rw [if_pos rfl]
    clear h01
    obtain ⟨i0, hi, hz0, hz1, hz2⟩ := info_parts cinfoI
    unfold RetNL
    dsimp only
    go_enter Tryz.func27, Tryz.ntmps27
    go_wp2_with fail
    generalize w.alloc (.cells [.slice Ar0 t.roots.length cr0, .slice Ab0 t.brs.length cb0].toArray 25) = WA at GA HB ⊢
    refine (KA.out _ GA.out).mono ?_
    rintro e w1 ⟨Ar, nr, cr, Ab, nb, cb, Al, nl, cl, Av, nv, cv, rfl, g1, HAS, GOOD⟩
    have G1 := Lib.hid (g1.alloc (.cells #[.slice Ar nr cr, .slice Ab nb cb, .slice Al nl cl, .slice Av nv cv] 114))
    have HS := Lib.hid (show ∀ W, Grew (w1.alloc (.cells #[.slice Ar nr cr, .slice Ab nb cb, .slice Al nl cl, .slice Av nv cv] 114)) W → W.heap[w1.heap.size]? = some (.cells #[.slice Ar nr cr, .slice Ab nb cb, .slice Al nl cl, .slice Av nv cv] 114 (0, 0)) from fun W g => heap_keepI g (heap_newI w1 _))
    obtain ⟨hr', hv', hl', hvv'⟩ := GOOD.out (by first | rfl | trivial)
    have HK := Lib.hid (fun v W (hW : Grew WA W) => KF.out (by first | rfl | trivial) v (.slice Ar nr cr) (.slice Ab nb cb) (.slice Al nl cl) (.slice Av nv cv) W (hv'.mono hW) (hvv'.mono hW))
    have HRT := Lib.hid (HR1.out (by first | rfl | trivial))
    clear g1 KA HAS GOOD hr' hv' hl' hvv' KF HR1
    dsimp only
    go_wp2_with fail
    generalize w1.alloc (.cells #[.slice Ar nr cr, .slice Ab nb cb, .slice Al nl cl, .slice Av nv cv] 114) = WB at G1 HS ⊢
    go_loopg [10, 29] vs.length (fun gg s10 s29 wr => ∃ k : Nat, k ≤ vs.length ∧ vs.length - k ≤ gg ∧ s29 = .int .i64 (k : Int) ∧ Aside (wr.ownsRow WB.heap.size 3 1 s10 (firstI PP k).length ((firstI PP k).flatMap oneI)) ∧ Aside (Grew WB wr))
    case atStart => exact ⟨0, by omega, by omega, rfl, (show Aside _ from World.ownsRow_nil _ _ _ _), (show Aside _ from Grew.refl _)⟩
    case round =>
      obtain ⟨k, hk, hgk, rfl, OW, GW⟩ := hrel
      have GAW := Lib.hid (G1.out.trans GW.out)
      have HG := Lib.hid (GA.out.trans GAW.out)
      by_cases hlt : k < vs.length
      · have hltz : (k : Int) < (vs.length : Int) := by omega
        have h0z : (0 : Int) ≤ (k : Int) := by omega
        obtain ⟨b, off, rfl, hb, hcell⟩ := HR.out (by omega)
        obtain ⟨c0, c1, c2, c3⟩ := hcell wr HG.out k hlt
        have hlen := firstI_len PP k
        have hpk := HP.out k hlt
        clear hcell
        generalize vs[k] = y at c0 c1 c2 c3 hpk
        obtain ⟨yu, ye, yl, yt⟩ := y
        have hr1 := HRT.out ⟨yu, ye, yl, yt⟩
        have hr2 := HR2.out ⟨yu, ye, yl, yt⟩
        have hkk := HK.out ⟨yu, ye, yl, yt⟩
        have kfi := fun W hW => KFI.out W yu hW
        unfold TFindEnd at kfi
        dsimp only at c0 c1 c2 c3 hr1 hr2 hkk
        generalize (brFind t.brs yu).getD br0 = ub at hr1 hr2 hkk kfi
        generalize (brFind t.brs yu).isSome = us at kfi
        obtain ⟨bi, bp, bl, bt, bm, bk⟩ := ub
        dsimp only at hr1 hr2 hkk kfi
        generalize RB ⟨yu, ye, yl, yt⟩ = rb at hpk hr1 hr2
        generalize foundF t.brs vs bp ye yl = o at hr2 hkk
        have ki := KI.out ye
        generalize (kindOf ye).inh = inh at hr1 hr2 ki
        have HPK := Lib.hid hpk
        have HR1 := Lib.hid hr1
        have HR2Y := Lib.hid hr2
        have HKK := Lib.hid hkk
        have KFY := Lib.hid kfi
        have KIY := Lib.hid ki
        have HV := Lib.hid (show ∀ W, Grew (wr.alloc (.cells #[.int .i64 yu, .int .i64 ye, .string yl, .string yt] 29)) W → W.heap[wr.heap.size]? = some (.cells #[.int .i64 yu, .int .i64 ye, .string yl, .string yt] 29 (0, 0)) from fun W g => heap_keepI g (heap_newI wr _))
        have gv := (Grew.refl wr).alloc (.cells #[.int .i64 yu, .int .i64 ye, .string yl, .string yt] 29)
        have GV := Lib.hid gv
        obtain ⟨t0, t1⟩ := two_cells (HB.out _ (GAW.out.trans gv))
        clear hpk hr1 hr2 hkk kfi ki gv
        go_wp2_with fail
        refine (KFY.out _ (HG.out.trans GV.out)).mono ?_
        rintro e w2 ⟨rfl, g2⟩
        have gz := g2.alloc (.cells #[.int .i64 bi, .int .i64 bp, .int .i64 bl, .string bt, .string bm] 54)
        have G2 := Lib.hid gz
        have HU := Lib.hid (show ∀ W, Grew (w2.alloc (.cells #[.int .i64 bi, .int .i64 bp, .int .i64 bl, .string bt, .string bm] 54)) W → W.heap[w2.heap.size]? = some (.cells #[.int .i64 bi, .int .i64 bp, .int .i64 bl, .string bt, .string bm] 54 (0, 0)) from fun W g => heap_keepI g (heap_newI w2 _))
        clear c0 c1 c2 c3 t0 t1 KFY
        obtain ⟨⟨v0, v1, v2, v3⟩, -⟩ := four_cells (HV.out _ gz)
        clear g2 gz
        dsimp only
        go_wp2_with fail
        refine (KIY.out _).mono ?_
        rintro e w3 ⟨rfl, g3⟩
        have G3 := Lib.hid g3
        have GV3 := Lib.hid (G2.out.trans g3)
        have GR3 := Lib.hid (GV.out.trans GV3.out)
        clear v0 v1 v2 v3 KIY
        obtain ⟨u0, u1, u2, u3, u4⟩ := five_cells (HU.out _ g3)
        clear g3
        dsimp only
        cases inh with
        | false =>
          have hb0 : True := trivial
          have HN := Lib.hid (firstI_no (HPK.out.trans (HR1.out (by first | rfl | simpa using hb0))))
          have OW3 := Lib.hid (own_keep OW.out GR3.out)
          have GW3 := Lib.hid (GW.out.trans GR3.out)
          clear HPK HR1 HR2Y HKK
          go_wp2
          go_roundg (vs.length - (k + 1))
          case measure => omega
          case rel => exact ⟨k + 1, by omega, by omega, by go_num, (show Aside _ by rw [HN.out]; exact OW3.out), (show Aside _ from GW3.out)⟩
        | true =>
          cases hb0 : (bp == 0) with
          | true =>
            have HN := Lib.hid (firstI_no (HPK.out.trans (HR1.out (by first | rfl | simpa using hb0))))
            have OW3 := Lib.hid (own_keep OW.out GR3.out)
            have GW3 := Lib.hid (GW.out.trans GR3.out)
            clear HPK HR1 HR2Y HKK
            go_wp2
            go_roundg (vs.length - (k + 1))
            case measure => omega
            case rel => exact ⟨k + 1, by omega, by omega, by go_num, (show Aside _ by rw [HN.out]; exact OW3.out), (show Aside _ from GW3.out)⟩
          | false =>
            have hrb := HR2Y.out (by first | rfl | simpa using hb0)
            obtain ⟨⟨x0, x1, x2, x3⟩, -⟩ := four_cells (HS.out _ (GW.out.trans GR3.out))
            obtain ⟨⟨v0, v1, v2, v3⟩, -⟩ := four_cells (HV.out _ GV3.out)
            have kf := HKK.out w3 (GAW.out.trans GR3.out)
            unfold RetV at kf
            clear HR1 HR2Y HKK
            cases o with
            | none =>
              have HN := Lib.hid (firstI_no (HPK.out.trans hrb))
              unfold Val.agg val0 at kf
              dsimp only [Option.getD_none, Option.isSome_none] at kf
              have KFX := Lib.hid kf
              clear kf hrb HPK
              go_wp2_with fail
              refine KFX.out.mono ?_
              rintro e w4 ⟨rfl, g4⟩
              have gz := g4.alloc (.cells #[.int .i64 0, .int .i64 0, .string ⟨#[]⟩, .string ⟨#[]⟩] 29)
              have OW4 := Lib.hid (own_keep OW.out (GR3.out.trans gz))
              have GW4 := Lib.hid (GW.out.trans (GR3.out.trans gz))
              clear x0 x1 x2 x3 v0 v1 v2 v3 u0 u1 u2 u3 u4 g4 gz KFX
              dsimp only
              go_wp2
              go_roundg (vs.length - (k + 1))
              case measure => omega
              case rel => exact ⟨k + 1, by omega, by omega, by go_num, (show Aside _ by rw [HN.out]; exact OW4.out), (show Aside _ from GW4.out)⟩
            | some x =>
              obtain ⟨xu, xe, xl, xt⟩ := x
              dsimp only at hrb
              unfold Val.agg at kf
              dsimp only [Option.getD_some, Option.isSome_some] at kf
              have KFX := Lib.hid kf
              clear kf
              go_wp2_with fail
              refine KFX.out.mono ?_
              rintro e w4 ⟨rfl, g4⟩
              have gz := g4.alloc (.cells #[.int .i64 xu, .int .i64 xe, .string xl, .string xt] 29)
              have OW4 := Lib.hid (own_keep OW.out (GR3.out.trans gz))
              have GW4 := Lib.hid (GW.out.trans (GR3.out.trans gz))
              clear x0 x1 x2 x3 v0 v1 v2 v3 u0 u1 u2 u3 u4 KFX
              obtain ⟨⟨v0, v1, v2, v3⟩, -⟩ := four_cells (HV.out _ (GV3.out.trans gz))
              clear g4 gz
              dsimp only
              cases hcmp : (xt.toList == yt.toList) with
              | false =>
                have HN := Lib.hid (firstI_no (HPK.out.trans (hrb.trans hcmp)))
                clear hrb HPK
                go_wp2
                go_roundg (vs.length - (k + 1))
                case measure => omega
                case rel => exact ⟨k + 1, by omega, by omega, by go_num, (show Aside _ by rw [HN.out]; exact OW4.out), (show Aside _ from GW4.out)⟩
              | true =>
                have HN := Lib.hid (firstI_yes (HPK.out.trans (hrb.trans hcmp)))
                clear hrb HPK
                go_wp2_with (at_builtin; refine appR rfl _ _ 22 rfl WB 3 i0 (.int .i64 0) 1 8 Tryz.underlying22 hi hz0 hz1 hz2 rfl (by omega) _ _ _ (by rfl) _ (own_keep OW4.out ((Grew.refl _).alloc _)) (GW4.out.alloc _) _ 1 [.int .i64 (k : Int)] (by rfl) (rd_lit _ rfl _ (by simp)) rfl (by simp [Value.oneCell']) (by unfold maxLen; omega) (by omega) ?_; intro v8 w8 hown8 hg8 _)
                have OW8 : Aside _ := hown8
                have G8 : Aside _ := hg8
                clear hown8 hg8
                go_wp2
                go_roundg (vs.length - (k + 1))
                case measure => omega
                case rel =>
                  refine ⟨k + 1, by omega, by omega, by go_num, (show Aside _ from ?_), (show Aside _ from G8.out)⟩
                  rw [HN.out, List.length_append, ← flat_oneI_snoc]
                  exact OW8.out
      · have hltz : ¬ (k : Int) < (vs.length : Int) := by omega
        obtain rfl : k = vs.length := by omega
        go_wp2
        go_ret2
        exact ⟨_, rfl, own_base OW.out (GA.out.trans G1.out).size, HG.out⟩
  · rw [if_neg hz]
    obtain rfl := h01.resolve_left hz
    clear KF hz h01 HR1 HR2 HP
    unfold RetNL
    dsimp only
    go_enter Tryz.func27, Tryz.ntmps27
    go_wp2_with fail
    generalize w.alloc (.cells [.slice Ar0 t.roots.length cr0, .slice Ab0 t.brs.length cb0].toArray 25) = WA at GA HB ⊢
    refine (KA.out _ GA.out).mono ?_
    rintro e w1 ⟨Ar, nr, cr, Ab, nb, cb, Al, nl, cl, Av, nv, cv, rfl, g1, HAS, GOOD⟩
    have G1 := Lib.hid (GA.out.trans (g1.alloc (.cells #[.slice Ar nr cr, .slice Ab nb cb, .slice Al nl cl, .slice Av nv cv] 114)))
    clear g1 KA HAS GOOD
    dsimp only
    go_wp2_with fail
    go_ret2
    exact ⟨_, rfl, World.ownsRow_nil _ _ _ _, G1.out⟩
end Go.Proofs.YtjaknioojpgkiaaGreatDoor
