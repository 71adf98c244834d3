/- Lemmas on what the functions of the program and of the library compute: PlainDu, N13, N14, R3u, Lfu, Shelf4. The conditions stand at each. -/
import Derived.Test.YtjaknioojpgkiaaGreatDoorQ36
import Derived.Test.YtjaknioojpgkiaaGreatDoorQ42
import Derived.Test.YtjaknioojpgkiaaGreatDoorQ16
import Derived.Test.YtjaknioojpgkiaaGreatDoorQ2
import Derived.Test.YtjaknioojpgkiaaGreatDoorQ39
import Derived.Test.YtjaknioojpgkiaaGreatDoorQ21
import Derived.Test.YtjaknioojpgkiaaGreatDoorQ31
import Derived.Test.YtjaknioojpgkiaaGreatDoorQ8
import Derived.Test.YtjaknioojpgkiaaGreatDoorQ11
import Derived.Test.YtjaknioojpgkiaaGreatDoorQ32
import Derived.Shelf.Small.Bits
import Derived.Shelf.Small.Strs
import Derived.Shelf.Small.Wraps
import Derived.Shelf.LaysM
import Derived.Shelf.Strconv.Itoa3
import Derived.Shelf.Strings.Search3
import Derived.Shelf.Strings.Cut
import Derived.Shelf.Strings.Shaped
import Derived.Shelf.Sort.Plain
import Derived.Shelf.Strings.Prefix
import Derived.Shelf.Strings.Split
import Derived.Shelf.Strings.Replace
import Derived.Shelf.Strings.SplitShaped
import Derived.Shelf.Strings.FuncGrows
import Derived.Ground.Names2Prog
import Derived.Shelf.Slices.CompactI
import Derived.Shelf.Slices.CompactS
import Derived.Shelf.Slices.SearchI
import Derived.Shelf.Slices.In.SortNone
import Derived.Ground.SlsfProg
import Derived.Shelf.SlSortCmp.Insertion
import Derived.Shelf.SlSortCmp.NoneTotal
import Derived.Test.YtjaknioojpgkiaaGreatDoorProg
import Derived.Shelf.SlGeneric
import Derived.Shelf.SlSortCmp.WholeK
/- The reference's way of putting a value in its place, plainly: the list behind some rounds. No condition. -/
namespace Go.Proofs.YtjaknioojpgkiaaGreatDoor
open Go.RowKit

/-- Whether the value was put behind some rounds. -/
def putD (v : Val) (vs : List Val) (k : Nat) : Bool := (vs.take k).any fun y => !lessV y v
def putK (v : Val) (vs : List Val) (k : Nat) : List Val := (vs.take k).filter (fun x => lessV x v) ++ (if putD v vs k then v :: (vs.take k).filter (fun x => lessV v x) else [])
theorem putD_step {v : Val} {vs : List Val} {k : Nat} (h : k < vs.length) : putD v vs (k + 1) = (putD v vs k || !lessV vs[k] v) := by
  unfold putD
  rw [List.take_succ_eq_append_getElem h, List.any_append]
  simp
theorem putK_len (v : Val) (vs : List Val) (k : Nat) : (putK v vs k).length ≤ 2 * k + 1 := by
  unfold putK
  have h1 := List.length_filter_le (fun x => lessV x v) (vs.take k)
  have h2 := List.length_filter_le (fun x => lessV v x) (vs.take k)
  have h3 : (vs.take k).length ≤ k := by rw [List.length_take]; omega
  rw [List.length_append]
  split
  · rw [List.length_cons]; omega
  · simp; omega
theorem putK_less {v : Val} {vs : List Val} (hs : vs.Pairwise ltV) {k : Nat} (h : k < vs.length) (hl : lessV vs[k] v = true) : putD v vs k = false ∧ putK v vs (k + 1) = putK v vs k ++ [vs[k]] := by
  have hd : putD v vs k = false := by
    unfold putD
    rw [List.any_eq_false]
    intro y hy
    obtain ⟨i, hi, rfl⟩ := List.mem_iff_getElem.1 hy
    rw [List.length_take] at hi
    have := List.pairwise_iff_getElem.1 hs i k (by omega) h (by omega)
    rw [List.getElem_take, lessV_yes (ltV_trans this ((lessV_ltV _ _).1 hl))]
    decide
  refine ⟨hd, ?_⟩
  have hd2 := putD_step (v := v) h
  rw [hd, hl] at hd2
  unfold putK
  rw [hd, hd2, List.take_succ_eq_append_getElem h, List.filter_append]
  simp [hl]
theorem putK_not {v : Val} {vs : List Val} {k : Nat} (h : k < vs.length) (hl : lessV vs[k] v = false) : putD v vs (k + 1) = true ∧ putK v vs (k + 1) = putK v vs k ++ (if putD v vs k then [] else [v]) ++ (if lessV v vs[k] then [vs[k]] else []) := by
  have hd2 := putD_step (v := v) h
  rw [hl, Bool.not_false, Bool.or_true] at hd2
  refine ⟨hd2, ?_⟩
  unfold putK
  rw [hd2, List.take_succ_eq_append_getElem h, List.filter_append, List.filter_append]
  cases hd : putD v vs k with
  | true => cases hv : lessV v vs[k] <;> simp [hl, hv]
  | false =>
    have hnil : (vs.take k).filter (fun x => lessV v x) = [] := List.filter_eq_nil_iff.2 fun y hy => by
      unfold putD at hd
      rw [List.any_eq_false] at hd
      have := hd y hy
      have hy2 : lessV y v = true := by simpa using this
      rw [lessV_no (ltV_asym ((lessV_ltV _ _).1 hy2))]
      decide
    cases hv : lessV v vs[k] <;> simp [hl, hv, hnil]
theorem putK_end (v : Val) (vs : List Val) : putV v vs = if putD v vs vs.length then putK v vs vs.length else putK v vs vs.length ++ [v] := by
  unfold putK putV
  rw [List.take_length]
  cases hd : putD v vs vs.length with
  | true => simp
  | false =>
    have hnil : vs.filter (fun x => lessV v x) = [] := List.filter_eq_nil_iff.2 fun y hy => by
      unfold putD at hd
      rw [List.take_length, List.any_eq_false] at hd
      have hy2 : lessV y v = true := by simpa using hd y hy
      rw [lessV_no (ltV_asym ((lessV_ltV _ _).1 hy2))]
      decide
    simp [hnil]
end Go.Proofs.YtjaknioojpgkiaaGreatDoor

/- The reference's put of layer 29, walked. The condition: the values are right, and few. -/
namespace Go.Proofs.YtjaknioojpgkiaaGreatDoor
open Go.RowKit

theorem own_snoc {w : World} {B : Nat} {e : TypeId} {o : Value} {F : List Val} (x : Val) {cs : List Value} (hc : cs = x.cells) (h : w.ownsRow B e 4 o (F.length + 1) (F.flatMap Val.cells ++ cs)) : w.ownsRow B e 4 o (F ++ [x]).length ((F ++ [x]).flatMap Val.cells) := by
  subst hc
  simpa [List.flatMap_append] using h
set_option maxHeartbeats 16000000 in
set_option maxRecDepth 100000 in
theorem refPut (v : Val) (vs : List Val) (hs : vs.Pairwise ltV) (hlen : vs.length ≤ 1000000) (vv : Value) (w : World) (hv : SlV w vv vs) :
    Calls Tryz.prog 68 #[vv, v.agg] w fun e w' => ∃ u, e = .returned u ∧ w'.ownsRow w.heap.size 29 4 u (putV v vs).length ((putV v vs).flatMap Val.cells) ∧ Grew w w' := by
  obtain ⟨A, c, rfl, hlc, hc, hcr⟩ := hv.open_
  unfold maxLen at hc
  have HR := Lib.hid hcr
  have HLE := Lib.hid (fun k (h : k < vs.length) (hl : lessV vs[k] v = true) => putK_less hs h hl)
  have HNO := Lib.hid (fun k (h : k < vs.length) (hl : lessV vs[k] v = false) => putK_not (v := v) h hl)
  have HST := Lib.hid (fun k (h : k < vs.length) => putD_step (v := v) h)
  have HND := putK_end v vs
  have HKL := Lib.hid (fun k => putK_len v vs k)
  have hd0 : putD v vs 0 = false := rfl
  have hk0 : putK v vs 0 = [] := rfl
  have kL1 := fun (y : Val) W => refLess_any y v W
  have kL2 := fun (y : Val) W => refLess_any v y W
  generalize putV v vs = PV at HND ⊢
  have HEND := Lib.hid HND
  clear HND hcr hv hs
  obtain ⟨DF, hDF⟩ : ∃ DF : Nat → Bool, DF = putD v vs := ⟨_, rfl⟩
  obtain ⟨KF, hKF⟩ : ∃ KF : Nat → List Val, KF = putK v vs := ⟨_, rfl⟩
  rw [← hDF] at HLE HNO HST HEND hd0
  rw [← hKF] at HLE HNO HEND HKL hk0
  clear hDF hKF
  obtain ⟨L1, hL1⟩ : ∃ L1 : Val → Bool, L1 = fun y => lessV y v := ⟨_, rfl⟩
  obtain ⟨L2, hL2⟩ : ∃ L2 : Val → Bool, L2 = fun y => lessV v y := ⟨_, rfl⟩
  have HLE2 := Lib.hid (show ∀ k (h : k < vs.length), L1 vs[k] = true → DF k = false ∧ KF (k + 1) = KF k ++ [vs[k]] from fun k h e => HLE.out k h (by rw [hL1] at e; exact e))
  have HNO2 := Lib.hid (show ∀ k (h : k < vs.length), L1 vs[k] = false → DF (k + 1) = true ∧ KF (k + 1) = KF k ++ (if DF k then [] else [v]) ++ (if L2 vs[k] then [vs[k]] else []) from fun k h e => by rw [hL2]; exact HNO.out k h (by rw [hL1] at e; exact e))
  have HST2 := Lib.hid (show ∀ k (h : k < vs.length), DF (k + 1) = (DF k || !L1 vs[k]) from fun k h => by rw [hL1]; exact HST.out k h)
  have kM1 := fun (y : Val) W => (show Calls Tryz.prog 47 #[y.agg, v.agg] W fun e w' => e = .returned (.bool (L1 y)) ∧ Grew W w' by rw [hL1]; exact kL1 y W)
  have kM2 := fun (y : Val) W => (show Calls Tryz.prog 47 #[v.agg, y.agg] W fun e w' => e = .returned (.bool (L2 y)) ∧ Grew W w' by rw [hL2]; exact kL2 y W)
  clear kL1 kL2 hL1 hL2 HLE HNO HST
  obtain ⟨vu, ve, vl, vt⟩ := v
  unfold Val.agg at kM1 kM2 ⊢
  dsimp only at kM1 kM2 ⊢
  have KM1 := Lib.hid kM1
  have KM2 := Lib.hid kM2
  clear kM1 kM2
  have GA := Lib.hid ((Grew.refl w).alloc (.cells #[.int .i64 vu, .int .i64 ve, .string vl, .string vt] 29))
  have HX := Lib.hid (heap_newI w (.cells #[.int .i64 vu, .int .i64 ve, .string vl, .string vt] 29))
  obtain ⟨i0, hi, hz0, hz1, hz2⟩ := info_parts cinfoV
  go_enter Tryz.func68, Tryz.ntmps68
  go_wp2_with fail
  generalize w.alloc (.cells #[.int .i64 vu, .int .i64 ve, .string vl, .string vt] 29) = WA at GA HX ⊢
  have HXC := Lib.hid (show ∀ W, Grew WA W → _ from fun W g => (four_cells (heap_keepI g HX.out)).1)
  go_loopg [5, 6, 7] vs.length (fun gg s5 s6 s7 wr => ∃ k : Nat, k ≤ vs.length ∧ vs.length - k ≤ gg ∧ s7 = .int .i64 (k : Int) ∧ s6 = .bool (DF k) ∧ Aside (wr.ownsRow WA.heap.size 29 4 s5 (KF k).length ((KF k).flatMap Val.cells)) ∧ Aside (Grew WA wr))
  case atStart => exact ⟨0, by omega, by omega, rfl, by rw [hd0], (show Aside _ from by rw [hk0]; exact World.ownsRow_nil _ _ _ _), (show Aside _ from Grew.refl _)⟩
  case round =>
    obtain ⟨k, hk, hgk, rfl, rfl, OW, GW⟩ := hrel
    have hkl := HKL.out k
    by_cases hlt : k < vs.length
    · have hltz : (k : Int) < (vs.length : Int) := by omega
      have h0z : (0 : Int) ≤ (k : Int) := by omega
      obtain ⟨bb, off, rfl, hbb, hcell⟩ := HR.out (by omega)
      have HCY := Lib.hid (fun W hW => hcell W hW k hlt)
      have h1 := HLE2.out k hlt
      have h2 := HNO2.out k hlt
      have h3 := HST2.out k hlt
      have km1 := KM1.out vs[k]
      have km2 := KM2.out vs[k]
      clear hcell hbb
      generalize vs[k] = y at HCY h1 h2 h3 km1 km2
      generalize L1 y = q1 at h1 h2 h3 km1
      generalize L2 y = q2 at h2 km2
      obtain ⟨yu, ye, yl, yt⟩ := y
      dsimp only at HCY km1 km2
      have KL1 := Lib.hid km1
      have KL2 := Lib.hid km2
      clear km1 km2
      obtain ⟨x0, x1, x2, x3⟩ := HXC.out _ GW.out
      obtain ⟨y0, y1, y2, y3⟩ := HCY.out _ (GA.out.trans GW.out)
      generalize hKk : KF k = F at OW hkl h1 h2
      generalize hDk : DF k = dk at h1 h2 h3 ⊢
      clear hKk hDk
      cases q1 with
      | true =>
        obtain ⟨rfl, hk2⟩ := h1 rfl
        have HK2 := Lib.hid hk2
        have HD2 := Lib.hid (show DF (k + 1) = false from h3)
        clear h1 h2 h3 hk2
        go_wp2_with fail
        have fx0 := Gr.cell x0
        have fx1 := Gr.cell x1
        have fx2 := Gr.cell x2
        have fx3 := Gr.cell x3
        have fy0 := Gr.cell y0
        have fy1 := Gr.cell y1
        have fy2 := Gr.cell y2
        have fy3 := Gr.cell y3
        refine region_gr wr (by kernel_rfl) (by kernel_rfl) (Grew.refl _) ?_
        repeat (first | go_big_quiet_step ((first | with_reducible exact Gr.calls _ (KL1.out _) | with_reducible exact Gr.calls _ (KL2.out _))) | quiet_step ((first | with_reducible exact Gr.calls _ (KL1.out _) | with_reducible exact Gr.calls _ (KL2.out _))))
        refine wpQuiet_nil ?_
        intro _ hw'
        obtain ⟨wi1, rfl⟩ := hw'
        have GW1 := Lib.hid (GW.out.trans wi1.g)
        have OW1 := Lib.hid (own_keep OW.out wi1.g)
        clear fx0 fx1 fx2 fx3 fy0 fy1 fy2 fy3 x0 x1 x2 x3 y0 y1 y2 y3
        obtain ⟨x0, x1, x2, x3⟩ := HXC.out _ GW1.out
        obtain ⟨y0, y1, y2, y3⟩ := HCY.out _ (GA.out.trans GW1.out)
        go_wp2_with fail
        have fx0 := Gr.cell x0
        have fx1 := Gr.cell x1
        have fx2 := Gr.cell x2
        have fx3 := Gr.cell x3
        have fy0 := Gr.cell y0
        have fy1 := Gr.cell y1
        have fy2 := Gr.cell y2
        have fy3 := Gr.cell y3
        refine region_gr wi1.W (by kernel_rfl) (by kernel_rfl) (Grew.refl _) ?_
        repeat (first | go_big_quiet_step ((first | with_reducible exact Gr.calls _ (KL1.out _) | with_reducible exact Gr.calls _ (KL2.out _))) | quiet_step ((first | with_reducible exact Gr.calls _ (KL1.out _) | with_reducible exact Gr.calls _ (KL2.out _))))
        refine wpQuiet_nil ?_
        intro _ hw'
        obtain ⟨wi2, rfl⟩ := hw'
        have GW2 := Lib.hid (GW1.out.trans wi2.g)
        have OW2 := Lib.hid (own_keep OW1.out wi2.g)
        clear fx0 fx1 fx2 fx3 fy0 fy1 fy2 fy3 x0 x1 x2 x3 y0 y1 y2 y3
        obtain ⟨x0, x1, x2, x3⟩ := HXC.out _ GW2.out
        obtain ⟨y0, y1, y2, y3⟩ := HCY.out _ (GA.out.trans GW2.out)
        go_wp2_with (at_builtin; refine appR rfl _ _ 27 rfl WA 29 i0 (.agg #[.int .i64 0, .int .i64 0, .string ⟨#[]⟩, .string ⟨#[]⟩]) 4 48 Tryz.underlying27 hi hz0 hz1 hz2 rfl (by omega) _ _ _ (by rfl) _ (own_keep OW2.out ((Grew.refl _).alloc _)) (GW2.out.alloc _) _ 1 [.int .i64 yu, .int .i64 ye, .string yl, .string yt] (by rfl) (rd_lit _ rfl _ (by simp)) rfl (by simp [Value.oneCell']) (by unfold maxLen; (try simp only [List.length_append, List.length_cons, List.length_nil]); omega) (by (try simp only [List.length_append, List.length_cons, List.length_nil]); omega) ?_; intro v3 w3 hown hg hkp)
        have OW3 := Lib.hid (own_snoc ⟨yu, ye, yl, yt⟩ rfl hown)
        have GW3 := Lib.hid hg
        clear hown hg hkp x0 x1 x2 x3 y0 y1 y2 y3
        obtain ⟨x0, x1, x2, x3⟩ := HXC.out _ GW3.out
        obtain ⟨y0, y1, y2, y3⟩ := HCY.out _ (GA.out.trans GW3.out)
        clear x0 x1 x2 x3 y0 y1 y2 y3
        go_wp2
        go_roundg (vs.length - (k + 1))
        case measure => omega
        case rel => exact ⟨k + 1, by omega, by omega, by go_num, by rw [HD2.out], (show Aside _ from by rw [HK2.out]; exact OW3.out), (show Aside _ from GW3.out)⟩
      | false =>
        obtain ⟨hd2, hk2⟩ := h2 rfl
        have HD2 := Lib.hid hd2
        clear h1 h2 h3 hd2
        cases dk with
        | true =>
          cases q2 with
          | true =>
            have HK2 := Lib.hid (show KF (k + 1) = F ++ [⟨yu, ye, yl, yt⟩] from by simpa using hk2)
            clear hk2
            go_wp2_with fail
            have fx0 := Gr.cell x0
            have fx1 := Gr.cell x1
            have fx2 := Gr.cell x2
            have fx3 := Gr.cell x3
            have fy0 := Gr.cell y0
            have fy1 := Gr.cell y1
            have fy2 := Gr.cell y2
            have fy3 := Gr.cell y3
            refine region_gr wr (by kernel_rfl) (by kernel_rfl) (Grew.refl _) ?_
            repeat (first | go_big_quiet_step ((first | with_reducible exact Gr.calls _ (KL1.out _) | with_reducible exact Gr.calls _ (KL2.out _))) | quiet_step ((first | with_reducible exact Gr.calls _ (KL1.out _) | with_reducible exact Gr.calls _ (KL2.out _))))
            refine wpQuiet_nil ?_
            intro _ hw'
            obtain ⟨wi1, rfl⟩ := hw'
            have GW1 := Lib.hid (GW.out.trans wi1.g)
            have OW1 := Lib.hid (own_keep OW.out wi1.g)
            clear fx0 fx1 fx2 fx3 fy0 fy1 fy2 fy3 x0 x1 x2 x3 y0 y1 y2 y3
            obtain ⟨x0, x1, x2, x3⟩ := HXC.out _ GW1.out
            obtain ⟨y0, y1, y2, y3⟩ := HCY.out _ (GA.out.trans GW1.out)
            go_wp2_with fail
            have fx0 := Gr.cell x0
            have fx1 := Gr.cell x1
            have fx2 := Gr.cell x2
            have fx3 := Gr.cell x3
            have fy0 := Gr.cell y0
            have fy1 := Gr.cell y1
            have fy2 := Gr.cell y2
            have fy3 := Gr.cell y3
            refine region_gr wi1.W (by kernel_rfl) (by kernel_rfl) (Grew.refl _) ?_
            repeat (first | go_big_quiet_step ((first | with_reducible exact Gr.calls _ (KL1.out _) | with_reducible exact Gr.calls _ (KL2.out _))) | quiet_step ((first | with_reducible exact Gr.calls _ (KL1.out _) | with_reducible exact Gr.calls _ (KL2.out _))))
            refine wpQuiet_nil ?_
            intro _ hw'
            obtain ⟨wi2, rfl⟩ := hw'
            have GW2 := Lib.hid (GW1.out.trans wi2.g)
            have OW2 := Lib.hid (own_keep OW1.out wi2.g)
            clear fx0 fx1 fx2 fx3 fy0 fy1 fy2 fy3 x0 x1 x2 x3 y0 y1 y2 y3
            obtain ⟨x0, x1, x2, x3⟩ := HXC.out _ GW2.out
            obtain ⟨y0, y1, y2, y3⟩ := HCY.out _ (GA.out.trans GW2.out)
            go_wp2_with (at_builtin; refine appR rfl _ _ 27 rfl WA 29 i0 (.agg #[.int .i64 0, .int .i64 0, .string ⟨#[]⟩, .string ⟨#[]⟩]) 4 48 Tryz.underlying27 hi hz0 hz1 hz2 rfl (by omega) _ _ _ (by rfl) _ (own_keep OW2.out ((Grew.refl _).alloc _)) (GW2.out.alloc _) _ 1 [.int .i64 yu, .int .i64 ye, .string yl, .string yt] (by rfl) (rd_lit _ rfl _ (by simp)) rfl (by simp [Value.oneCell']) (by unfold maxLen; (try simp only [List.length_append, List.length_cons, List.length_nil]); omega) (by (try simp only [List.length_append, List.length_cons, List.length_nil]); omega) ?_; intro v3 w3 hown hg hkp)
            have OW3 := Lib.hid (own_snoc ⟨yu, ye, yl, yt⟩ rfl hown)
            have GW3 := Lib.hid hg
            clear hown hg hkp x0 x1 x2 x3 y0 y1 y2 y3
            obtain ⟨x0, x1, x2, x3⟩ := HXC.out _ GW3.out
            obtain ⟨y0, y1, y2, y3⟩ := HCY.out _ (GA.out.trans GW3.out)
            clear x0 x1 x2 x3 y0 y1 y2 y3
            go_wp2
            go_roundg (vs.length - (k + 1))
            case measure => omega
            case rel => exact ⟨k + 1, by omega, by omega, by go_num, by rw [HD2.out], (show Aside _ from by rw [HK2.out]; exact OW3.out), (show Aside _ from GW3.out)⟩
          | false =>
            have HK2 := Lib.hid (show KF (k + 1) = F from by simpa using hk2)
            clear hk2
            go_wp2_with fail
            have fx0 := Gr.cell x0
            have fx1 := Gr.cell x1
            have fx2 := Gr.cell x2
            have fx3 := Gr.cell x3
            have fy0 := Gr.cell y0
            have fy1 := Gr.cell y1
            have fy2 := Gr.cell y2
            have fy3 := Gr.cell y3
            refine region_gr wr (by kernel_rfl) (by kernel_rfl) (Grew.refl _) ?_
            repeat (first | go_big_quiet_step ((first | with_reducible exact Gr.calls _ (KL1.out _) | with_reducible exact Gr.calls _ (KL2.out _))) | quiet_step ((first | with_reducible exact Gr.calls _ (KL1.out _) | with_reducible exact Gr.calls _ (KL2.out _))))
            refine wpQuiet_nil ?_
            intro _ hw'
            obtain ⟨wi1, rfl⟩ := hw'
            have GW1 := Lib.hid (GW.out.trans wi1.g)
            have OW1 := Lib.hid (own_keep OW.out wi1.g)
            clear fx0 fx1 fx2 fx3 fy0 fy1 fy2 fy3 x0 x1 x2 x3 y0 y1 y2 y3
            obtain ⟨x0, x1, x2, x3⟩ := HXC.out _ GW1.out
            obtain ⟨y0, y1, y2, y3⟩ := HCY.out _ (GA.out.trans GW1.out)
            go_wp2_with fail
            have fx0 := Gr.cell x0
            have fx1 := Gr.cell x1
            have fx2 := Gr.cell x2
            have fx3 := Gr.cell x3
            have fy0 := Gr.cell y0
            have fy1 := Gr.cell y1
            have fy2 := Gr.cell y2
            have fy3 := Gr.cell y3
            refine region_gr wi1.W (by kernel_rfl) (by kernel_rfl) (Grew.refl _) ?_
            repeat (first | go_big_quiet_step ((first | with_reducible exact Gr.calls _ (KL1.out _) | with_reducible exact Gr.calls _ (KL2.out _))) | quiet_step ((first | with_reducible exact Gr.calls _ (KL1.out _) | with_reducible exact Gr.calls _ (KL2.out _))))
            refine wpQuiet_nil ?_
            intro _ hw'
            obtain ⟨wi2, rfl⟩ := hw'
            have GW2 := Lib.hid (GW1.out.trans wi2.g)
            have OW2 := Lib.hid (own_keep OW1.out wi2.g)
            clear fx0 fx1 fx2 fx3 fy0 fy1 fy2 fy3 x0 x1 x2 x3 y0 y1 y2 y3
            obtain ⟨x0, x1, x2, x3⟩ := HXC.out _ GW2.out
            obtain ⟨y0, y1, y2, y3⟩ := HCY.out _ (GA.out.trans GW2.out)
            clear x0 x1 x2 x3 y0 y1 y2 y3
            go_wp2
            go_roundg (vs.length - (k + 1))
            case measure => omega
            case rel => exact ⟨k + 1, by omega, by omega, by go_num, by rw [HD2.out], (show Aside _ from by rw [HK2.out]; exact OW2.out), (show Aside _ from GW2.out)⟩
        | false =>
          cases q2 with
          | true =>
            have HK2 := Lib.hid (show KF (k + 1) = F ++ [⟨vu, ve, vl, vt⟩] ++ [⟨yu, ye, yl, yt⟩] from by simpa using hk2)
            clear hk2
            go_wp2_with fail
            have fx0 := Gr.cell x0
            have fx1 := Gr.cell x1
            have fx2 := Gr.cell x2
            have fx3 := Gr.cell x3
            have fy0 := Gr.cell y0
            have fy1 := Gr.cell y1
            have fy2 := Gr.cell y2
            have fy3 := Gr.cell y3
            refine region_gr wr (by kernel_rfl) (by kernel_rfl) (Grew.refl _) ?_
            repeat (first | go_big_quiet_step ((first | with_reducible exact Gr.calls _ (KL1.out _) | with_reducible exact Gr.calls _ (KL2.out _))) | quiet_step ((first | with_reducible exact Gr.calls _ (KL1.out _) | with_reducible exact Gr.calls _ (KL2.out _))))
            refine wpQuiet_nil ?_
            intro _ hw'
            obtain ⟨wi1, rfl⟩ := hw'
            have GW1 := Lib.hid (GW.out.trans wi1.g)
            have OW1 := Lib.hid (own_keep OW.out wi1.g)
            clear fx0 fx1 fx2 fx3 fy0 fy1 fy2 fy3 x0 x1 x2 x3 y0 y1 y2 y3
            obtain ⟨x0, x1, x2, x3⟩ := HXC.out _ GW1.out
            obtain ⟨y0, y1, y2, y3⟩ := HCY.out _ (GA.out.trans GW1.out)
            go_wp2_with (at_builtin; refine appR rfl _ _ 27 rfl WA 29 i0 (.agg #[.int .i64 0, .int .i64 0, .string ⟨#[]⟩, .string ⟨#[]⟩]) 4 48 Tryz.underlying27 hi hz0 hz1 hz2 rfl (by omega) _ _ _ (by rfl) _ (own_keep OW1.out ((Grew.refl _).alloc _)) (GW1.out.alloc _) _ 1 [.int .i64 vu, .int .i64 ve, .string vl, .string vt] (by rfl) (rd_lit _ rfl _ (by simp)) rfl (by simp [Value.oneCell']) (by unfold maxLen; (try simp only [List.length_append, List.length_cons, List.length_nil]); omega) (by (try simp only [List.length_append, List.length_cons, List.length_nil]); omega) ?_; intro v2 w2 hown hg hkp)
            have OW2 := Lib.hid (own_snoc ⟨vu, ve, vl, vt⟩ rfl hown)
            have GW2 := Lib.hid hg
            clear hown hg hkp x0 x1 x2 x3 y0 y1 y2 y3
            obtain ⟨x0, x1, x2, x3⟩ := HXC.out _ GW2.out
            obtain ⟨y0, y1, y2, y3⟩ := HCY.out _ (GA.out.trans GW2.out)
            go_wp2_with fail
            have fx0 := Gr.cell x0
            have fx1 := Gr.cell x1
            have fx2 := Gr.cell x2
            have fx3 := Gr.cell x3
            have fy0 := Gr.cell y0
            have fy1 := Gr.cell y1
            have fy2 := Gr.cell y2
            have fy3 := Gr.cell y3
            refine region_gr w2 (by kernel_rfl) (by kernel_rfl) (Grew.refl _) ?_
            repeat (first | go_big_quiet_step ((first | with_reducible exact Gr.calls _ (KL1.out _) | with_reducible exact Gr.calls _ (KL2.out _))) | quiet_step ((first | with_reducible exact Gr.calls _ (KL1.out _) | with_reducible exact Gr.calls _ (KL2.out _))))
            refine wpQuiet_nil ?_
            intro _ hw'
            obtain ⟨wi3, rfl⟩ := hw'
            have GW3 := Lib.hid (GW2.out.trans wi3.g)
            have OW3 := Lib.hid (own_keep OW2.out wi3.g)
            clear fx0 fx1 fx2 fx3 fy0 fy1 fy2 fy3 x0 x1 x2 x3 y0 y1 y2 y3
            obtain ⟨x0, x1, x2, x3⟩ := HXC.out _ GW3.out
            obtain ⟨y0, y1, y2, y3⟩ := HCY.out _ (GA.out.trans GW3.out)
            go_wp2_with (at_builtin; refine appR rfl _ _ 27 rfl WA 29 i0 (.agg #[.int .i64 0, .int .i64 0, .string ⟨#[]⟩, .string ⟨#[]⟩]) 4 48 Tryz.underlying27 hi hz0 hz1 hz2 rfl (by omega) _ _ _ (by rfl) _ (own_keep OW3.out ((Grew.refl _).alloc _)) (GW3.out.alloc _) _ 1 [.int .i64 yu, .int .i64 ye, .string yl, .string yt] (by rfl) (rd_lit _ rfl _ (by simp)) rfl (by simp [Value.oneCell']) (by unfold maxLen; (try simp only [List.length_append, List.length_cons, List.length_nil]); omega) (by (try simp only [List.length_append, List.length_cons, List.length_nil]); omega) ?_; intro v4 w4 hown hg hkp)
            have OW4 := Lib.hid (own_snoc ⟨yu, ye, yl, yt⟩ rfl hown)
            have GW4 := Lib.hid hg
            clear hown hg hkp x0 x1 x2 x3 y0 y1 y2 y3
            obtain ⟨x0, x1, x2, x3⟩ := HXC.out _ GW4.out
            obtain ⟨y0, y1, y2, y3⟩ := HCY.out _ (GA.out.trans GW4.out)
            clear x0 x1 x2 x3 y0 y1 y2 y3
            go_wp2
            go_roundg (vs.length - (k + 1))
            case measure => omega
            case rel => exact ⟨k + 1, by omega, by omega, by go_num, by rw [HD2.out], (show Aside _ from by rw [HK2.out]; exact OW4.out), (show Aside _ from GW4.out)⟩
          | false =>
            have HK2 := Lib.hid (show KF (k + 1) = F ++ [⟨vu, ve, vl, vt⟩] from by simpa using hk2)
            clear hk2
            go_wp2_with fail
            have fx0 := Gr.cell x0
            have fx1 := Gr.cell x1
            have fx2 := Gr.cell x2
            have fx3 := Gr.cell x3
            have fy0 := Gr.cell y0
            have fy1 := Gr.cell y1
            have fy2 := Gr.cell y2
            have fy3 := Gr.cell y3
            refine region_gr wr (by kernel_rfl) (by kernel_rfl) (Grew.refl _) ?_
            repeat (first | go_big_quiet_step ((first | with_reducible exact Gr.calls _ (KL1.out _) | with_reducible exact Gr.calls _ (KL2.out _))) | quiet_step ((first | with_reducible exact Gr.calls _ (KL1.out _) | with_reducible exact Gr.calls _ (KL2.out _))))
            refine wpQuiet_nil ?_
            intro _ hw'
            obtain ⟨wi1, rfl⟩ := hw'
            have GW1 := Lib.hid (GW.out.trans wi1.g)
            have OW1 := Lib.hid (own_keep OW.out wi1.g)
            clear fx0 fx1 fx2 fx3 fy0 fy1 fy2 fy3 x0 x1 x2 x3 y0 y1 y2 y3
            obtain ⟨x0, x1, x2, x3⟩ := HXC.out _ GW1.out
            obtain ⟨y0, y1, y2, y3⟩ := HCY.out _ (GA.out.trans GW1.out)
            go_wp2_with (at_builtin; refine appR rfl _ _ 27 rfl WA 29 i0 (.agg #[.int .i64 0, .int .i64 0, .string ⟨#[]⟩, .string ⟨#[]⟩]) 4 48 Tryz.underlying27 hi hz0 hz1 hz2 rfl (by omega) _ _ _ (by rfl) _ (own_keep OW1.out ((Grew.refl _).alloc _)) (GW1.out.alloc _) _ 1 [.int .i64 vu, .int .i64 ve, .string vl, .string vt] (by rfl) (rd_lit _ rfl _ (by simp)) rfl (by simp [Value.oneCell']) (by unfold maxLen; (try simp only [List.length_append, List.length_cons, List.length_nil]); omega) (by (try simp only [List.length_append, List.length_cons, List.length_nil]); omega) ?_; intro v2 w2 hown hg hkp)
            have OW2 := Lib.hid (own_snoc ⟨vu, ve, vl, vt⟩ rfl hown)
            have GW2 := Lib.hid hg
            clear hown hg hkp x0 x1 x2 x3 y0 y1 y2 y3
            obtain ⟨x0, x1, x2, x3⟩ := HXC.out _ GW2.out
            obtain ⟨y0, y1, y2, y3⟩ := HCY.out _ (GA.out.trans GW2.out)
            go_wp2_with fail
            have fx0 := Gr.cell x0
            have fx1 := Gr.cell x1
            have fx2 := Gr.cell x2
            have fx3 := Gr.cell x3
            have fy0 := Gr.cell y0
            have fy1 := Gr.cell y1
            have fy2 := Gr.cell y2
            have fy3 := Gr.cell y3
            refine region_gr w2 (by kernel_rfl) (by kernel_rfl) (Grew.refl _) ?_
            repeat (first | go_big_quiet_step ((first | with_reducible exact Gr.calls _ (KL1.out _) | with_reducible exact Gr.calls _ (KL2.out _))) | quiet_step ((first | with_reducible exact Gr.calls _ (KL1.out _) | with_reducible exact Gr.calls _ (KL2.out _))))
            refine wpQuiet_nil ?_
            intro _ hw'
            obtain ⟨wi3, rfl⟩ := hw'
            have GW3 := Lib.hid (GW2.out.trans wi3.g)
            have OW3 := Lib.hid (own_keep OW2.out wi3.g)
            clear fx0 fx1 fx2 fx3 fy0 fy1 fy2 fy3 x0 x1 x2 x3 y0 y1 y2 y3
            obtain ⟨x0, x1, x2, x3⟩ := HXC.out _ GW3.out
            obtain ⟨y0, y1, y2, y3⟩ := HCY.out _ (GA.out.trans GW3.out)
            clear x0 x1 x2 x3 y0 y1 y2 y3
            go_wp2
            go_roundg (vs.length - (k + 1))
            case measure => omega
            case rel => exact ⟨k + 1, by omega, by omega, by go_num, by rw [HD2.out], (show Aside _ from by rw [HK2.out]; exact OW3.out), (show Aside _ from GW3.out)⟩
    · have hltz : ¬ (k : Int) < (vs.length : Int) := by omega
      obtain rfl : k = vs.length := by omega
      obtain ⟨x0, x1, x2, x3⟩ := HXC.out _ GW.out
      have HE2 := HEND.out
      generalize hKk : KF vs.length = F at OW hkl HE2
      generalize DF vs.length = dk at HE2 ⊢
      cases dk with
      | true =>
        obtain rfl : PV = F := by simpa using HE2
        have HGE := Lib.hid (GA.out.trans GW.out)
        clear x0 x1 x2 x3 HE2
        go_wp2
        go_ret
        exact ⟨_, rfl, own_base OW.out GA.out.size, HGE.out⟩
      | false =>
        obtain rfl : PV = F ++ [⟨vu, ve, vl, vt⟩] := by simpa using HE2
        clear HE2
        go_wp2_with (at_builtin; refine appR rfl _ _ 27 rfl WA 29 i0 (.agg #[.int .i64 0, .int .i64 0, .string ⟨#[]⟩, .string ⟨#[]⟩]) 4 48 Tryz.underlying27 hi hz0 hz1 hz2 rfl (by omega) _ _ _ (by rfl) _ (own_keep OW.out ((Grew.refl _).alloc _)) (GW.out.alloc _) _ 1 [.int .i64 vu, .int .i64 ve, .string vl, .string vt] (by rfl) (rd_lit _ rfl _ (by simp)) rfl (by simp [Value.oneCell']) (by unfold maxLen; omega) (by omega) ?_; intro v9 w9 hown hg hkp)
        have OWE := Lib.hid (own_base (own_snoc ⟨vu, ve, vl, vt⟩ rfl hown) GA.out.size)
        have HGE := Lib.hid (GA.out.trans hg)
        clear hown hg hkp x0 x1 x2 x3
        go_wp2
        go_ret
        refine ⟨v9, rfl, ?_, HGE.out⟩
        simpa [List.flatMap_append] using OWE.out
end Go.Proofs.YtjaknioojpgkiaaGreatDoor

/- The reference's Set of layer 29, walked. The condition: the lists are short. -/
namespace Go.Proofs.YtjaknioojpgkiaaGreatDoor
open Go.RowKit

set_option maxHeartbeats 2000000 in
set_option maxRecDepth 100000 in
theorem refSetNo (t : Tr) (ls : List ByteArray) (vs : List Val) (v : Val) (rv bv lv vv : Value) (w : World) (hr : SlI w rv t.roots) (hv : SlBr w bv t.brs) (hf : FewBr t.brs) (hrl : t.roots.length ≤ 1000000) (hm : ∀ i (h : i < t.brs.length), t.brs[i].mark.size ≤ 9223372036854775807) (hl : SlS w lv ls) (hvv : SlV w vv vs) (h0 : ¬ ofI t ls vs = 0) :
    Calls Tryz.prog 18 #[.agg #[rv, bv], lv, vv, v.agg] w (RetVL (setR t ls vs v) w) := by
  have kR := fun W (hW : Grew w W) => refRightI t ls vs rv bv lv vv W (hr.mono hW) (hv.mono hW) hf hrl hm (hl.mono hW) (hvv.mono hW)
  have he : setR t ls vs v = ([], 1) := by unfold setR; rw [if_pos h0]
  have hb : (ofI t ls vs == 0) = false := by simpa using h0
  rw [he]
  rw [hb] at kR
  have KR := Lib.hid kR
  obtain ⟨vu, ve, vl, vt⟩ := v
  unfold Val.agg
  dsimp only
  obtain ⟨Ar0, cr0, rfl, -⟩ := hr.open_
  obtain ⟨Ab0, cb0, rfl, -⟩ := hv.open_
  clear kR hr hv hf hrl hm hl hvv h0 he hb
  have GA := Lib.hid (((Grew.refl w).alloc (.cells #[.slice Ar0 t.roots.length cr0, .slice Ab0 t.brs.length cb0] 25)).alloc (.cells #[.int .i64 vu, .int .i64 ve, .string vl, .string vt] 29))
  unfold RetVL
  go_enter Tryz.func18, Tryz.ntmps18
  go_wp2_with fail
  refine (KR.out _ GA.out).mono ?_
  rintro e w1 ⟨rfl, g1⟩
  have HG1 := Lib.hid (GA.out.trans g1)
  clear g1 KR
  dsimp only
  go_wp2
  go_ret2
  exact ⟨_, rfl, World.ownsRow_nil _ _ _ _, HG1.out⟩
set_option maxHeartbeats 16000000 in
set_option maxRecDepth 100000 in
theorem refSetYes (t : Tr) (ls : List ByteArray) (vs : List Val) (v : Val) (rv bv lv vv : Value) (w : World) (hr : SlI w rv t.roots) (hv : SlBr w bv t.brs) (hf : FewBr t.brs) (hrl : t.roots.length ≤ 1000000) (hm : ∀ i (h : i < t.brs.length), t.brs[i].mark.size ≤ 9223372036854775807) (hl : SlS w lv ls) (hvv : SlV w vv vs) (hfv : vs.length ≤ 1000000) (h0 : ofI t ls vs = 0) :
    Calls Tryz.prog 18 #[.agg #[rv, bv], lv, vv, v.agg] w (RetVL (setR t ls vs v) w) := by
  have kR := fun W (hW : Grew w W) => refRightI t ls vs rv bv lv vv W (hr.mono hW) (hv.mono hW) hf hrl hm (hl.mono hW) (hvv.mono hW)
  have kF := fun W (hW : Grew w W) => refFind19 t.brs v.unit rv bv W (hv.mono hW)
  have kW := fun W => isElement_any v.elem W
  have kA := fun lev W => refAllowed_any v.elem lev W
  have kC := fun W (hW : Grew w W) => refHas29 ls v.lang lv W (hl.mono hW)
  have kT := fun W => refIsText_any v.text W
  have kI := fun W => refInherited_any v.elem W
  have kG := fun u W (hW : Grew w W) => refFoundX t ls vs u v.elem v.lang rv bv lv vv W (hr.mono hW) (hv.mono hW) hf hrl hm (hl.mono hW) (hvv.mono hW)
  have kP := fun W (hW : Grew w W) => refPut v vs (ofI_zero.1 h0).2.2.2.2 hfv vv W (hvv.mono hW)
  have kN := fun uv W (hW : Grew w W) (hu : SlV W uv (putV v vs)) (hn : (putV v vs).length ≤ 1000000) => refNormal t ls (putV v vs) rv bv lv uv W (hr.mono hW) (hv.mono hW) hf hrl hm (hl.mono hW) hu hn
  have hnr := fun (h : valG t ls vs v = 0) hl => norm_put (t := t) (ls := ls) (vs := vs) (v := v) (by rw [h0, h]; rfl) hl
  have hset : setR t ls vs v = if valG t ls vs v = 0 then (if 1024 < (putV v vs).length then ([], 8) else (normF t (putV v vs), 0)) else ([], valG t ls vs v) := by
    rw [setR_is, h0]
    by_cases hz : valG t ls vs v = 0
    · rw [hz]; rfl
    · have : orF [0, valG t ls vs v] = valG t ls vs v := by simp [orF, hz]
      rw [this]
  rw [h0] at kR
  rw [hset]
  generalize hRES : (if valG t ls vs v = 0 then (if 1024 < (putV v vs).length then (([] : List Val), (8 : Int)) else (normF t (putV v vs), 0)) else ([], valG t ls vs v)) = RES
  generalize hNV : valG t ls vs v = NV at hRES hnr
  unfold valG at hNV
  unfold TFindEnd at kF
  unfold RetVL at kN
  generalize hbf : brFind t.brs v.unit = bf at kF hNV
  generalize isEl v.elem = el at kW hNV
  generalize (kindOf v.elem).inh = inh at kI hNV
  generalize inL ls v.lang = il at kC hNV
  generalize isTextF v.text.data.toList = tx at kT hNV
  generalize normF t (putV v vs) = NF at hnr hRES
  generalize normR t ls (putV v vs) = NR at kN hnr
  generalize putV v vs = PV at kP kN hnr hRES
  obtain ⟨vu, ve, vl, vt⟩ := v
  unfold Val.agg at kP ⊢
  dsimp only at kF kW kA kC kT kI kG kP hbf hNV ⊢
  have KR := Lib.hid kR
  have KF := Lib.hid kF
  have KW := Lib.hid kW
  have KA := Lib.hid kA
  have KC := Lib.hid kC
  have KT := Lib.hid kT
  have KI := Lib.hid kI
  have KG := Lib.hid kG
  have KP := Lib.hid kP
  have KN := Lib.hid kN
  have HNR := Lib.hid hnr
  have HS := Lib.hid hRES
  obtain ⟨Ar0, cr0, rfl, -⟩ := hr.open_
  obtain ⟨Ab0, cb0, rfl, -⟩ := hv.open_
  clear kR kF kW kA kC kT kI kG kP kN hnr hRES hr hv hf hrl hm hl hvv hbf hset h0
  have hb : ∀ W, Grew ((w.alloc (.cells #[.slice Ar0 t.roots.length cr0, .slice Ab0 t.brs.length cb0] 25)).alloc (.cells #[.int .i64 vu, .int .i64 ve, .string vl, .string vt] 29)) W → W.heap[w.heap.size]? = some (.cells #[.slice Ar0 t.roots.length cr0, .slice Ab0 t.brs.length cb0] 25 (0, 0)) ∧ W.heap[w.heap.size + 1]? = some (.cells #[.int .i64 vu, .int .i64 ve, .string vl, .string vt] 29 (0, 0)) := fun W g => by
    have e1 := heap_newI w (.cells #[.slice Ar0 t.roots.length cr0, .slice Ab0 t.brs.length cb0] 25)
    have e2 := heap_newI (w.alloc (.cells #[.slice Ar0 t.roots.length cr0, .slice Ab0 t.brs.length cb0] 25)) (.cells #[.int .i64 vu, .int .i64 ve, .string vl, .string vt] 29)
    rw [World.size_alloc] at e2
    exact ⟨heap_keepI (((Grew.refl _).alloc _).trans g) e1, heap_keepI g e2⟩
  have HB := Lib.hid hb
  have GA := Lib.hid (((Grew.refl w).alloc (.cells #[.slice Ar0 t.roots.length cr0, .slice Ab0 t.brs.length cb0] 25)).alloc (.cells #[.int .i64 vu, .int .i64 ve, .string vl, .string vt] 29))
  clear hb
  unfold RetVL
  obtain ⟨bi, hbi⟩ : ∃ b, b = bf.getD br0 := ⟨_, rfl⟩
  have hbs : bf = if bf.isSome then some bi else none := by cases bf <;> simp_all
  rw [← hbi] at KF
  generalize hs : bf.isSome = s at KF hbs
  clear hbi hs
  rw [hbs] at hNV
  clear hbs
  have HRES := Lib.hid hNV
  clear hNV
  obtain ⟨bi, bp, bl, bt, bm, bk⟩ := bi
  dsimp only at KF
  go_enter Tryz.func18, Tryz.ntmps18
  go_wp2_with fail
  generalize (w.alloc (.cells #[.slice Ar0 t.roots.length cr0, .slice Ab0 t.brs.length cb0] 25)).alloc (.cells #[.int .i64 vu, .int .i64 ve, .string vl, .string vt] 29) = WA at GA HB ⊢
  refine (KR.out _ GA.out).mono ?_
  rintro e wr ⟨rfl, gr⟩
  have GR := Lib.hid gr
  replace GA := Lib.hid (GA.out.trans gr)
  replace HB := Lib.hid (fun W g => HB.out W (gr.trans g))
  clear gr KR
  obtain ⟨t0, t1⟩ := two_cells (HB.out _ (Grew.refl _)).1
  obtain ⟨⟨v0, v1, v2, v3⟩, -⟩ := four_cells (HB.out _ (Grew.refl _)).2
  dsimp only
  go_wp2_with fail
  refine (KF.out _ GA.out).mono ?_
  rintro e w1 ⟨rfl, g1⟩
  have gu := g1.alloc (.cells #[.int .i64 bi, .int .i64 bp, .int .i64 bl, .string bt, .string bm] 54)
  have HU := Lib.hid (show ∀ W, Grew (w1.alloc (.cells #[.int .i64 bi, .int .i64 bp, .int .i64 bl, .string bt, .string bm] 54)) W → W.heap[w1.heap.size]? = some (.cells #[.int .i64 bi, .int .i64 bp, .int .i64 bl, .string bt, .string bm] 54 (0, 0)) from fun W g => heap_keepI g (heap_newI w1 _))
  have GU := Lib.hid gu
  have HGU := Lib.hid (GA.out.trans gu)
  clear g1 gu KF t0 t1 v0 v1 v2 v3
  dsimp only
  cases s with
  | false =>
    obtain rfl : NV = 7 := by have h := HRES.out; simp at h; first | exact h.symm | exact h | omega
    obtain rfl : RES = ([], 7) := by have h := HS.out; rw [if_neg (by decide)] at h; exact h.symm
    clear HRES HS HNR KN KP
    go_wp2
    go_ret2
    exact ⟨_, rfl, World.ownsRow_nil _ _ _ _, HGU.out⟩
  | true =>
    obtain ⟨⟨v0, v1, v2, v3⟩, -⟩ := four_cells (HB.out _ GU.out).2
    go_wp2_with fail
    generalize hwu : w1.alloc (.cells #[.int .i64 bi, .int .i64 bp, .int .i64 bl, .string bt, .string bm] 54) = WU at GU HGU HU v0 v1 v2 v3 ⊢
    generalize w1.heap.size = UB at HU ⊢
    clear hwu
    refine (KW.out _).mono ?_
    rintro e w2 ⟨rfl, rfl⟩
    clear v0 v1 v2 v3 KW
    have G2 := Lib.hid (Grew.refl WU)
    dsimp only
    cases el with
    | false =>
      obtain rfl : NV = 2 := by have h := HRES.out; simp [] at h; first | exact h.symm | exact h | omega
      obtain rfl : RES = ([], 2) := by have h := HS.out; rw [if_neg (by decide)] at h; exact h.symm
      clear HRES HS HNR KN KP
      go_wp2
      go_ret2
      exact ⟨_, rfl, World.ownsRow_nil _ _ _ _, HGU.out.trans G2.out⟩
    | true =>
      obtain ⟨⟨v0, v1, v2, v3⟩, -⟩ := four_cells (HB.out _ (GU.out.trans G2.out)).2
      obtain ⟨u0, u1, u2, u3, u4⟩ := five_cells (HU.out _ G2.out)
      go_wp2_with fail
      generalize hal : allowedF ve bl = al
      have ka := KA.out bl
      rw [hal] at ka
      have KA2 := Lib.hid ka
      have HAL := Lib.hid hal
      clear ka hal KA
      refine (KA2.out _).mono ?_
      rintro e w3 ⟨rfl, rfl⟩
      clear KA2
      dsimp only
      cases al with
      | false =>
        obtain rfl : NV = 18 := by have h := HRES.out; simp [HAL.out] at h; first | exact h.symm | exact h | omega
        obtain rfl : RES = ([], 18) := by have h := HS.out; rw [if_neg (by decide)] at h; exact h.symm
        clear HRES HS HNR KN KP
        go_wp2
        go_ret2
        exact ⟨_, rfl, World.ownsRow_nil _ _ _ _, HGU.out.trans G2.out⟩
      | true =>
        go_wp2_with fail
        refine (KC.out _ (HGU.out.trans G2.out)).mono ?_
        rintro e w4 ⟨rfl, rfl⟩
        clear KC
        dsimp only
        cases il with
        | false =>
          obtain rfl : NV = 10 := by have h := HRES.out; simp [HAL.out] at h; first | exact h.symm | exact h | omega
          obtain rfl : RES = ([], 10) := by have h := HS.out; rw [if_neg (by decide)] at h; exact h.symm
          clear HRES HS HNR KN KP
          go_wp2
          go_ret2
          exact ⟨_, rfl, World.ownsRow_nil _ _ _ _, HGU.out.trans G2.out⟩
        | true =>
          go_wp2_with fail
          refine (KT.out _).mono ?_
          rintro e w5 ⟨rfl, g5⟩
          have G5 := Lib.hid (G2.out.trans g5)
          clear v0 v1 v2 v3 u0 u1 u2 u3 u4 g5 KT
          dsimp only
          cases tx with
          | false =>
            obtain rfl : NV = 3 := by have h := HRES.out; simp [HAL.out] at h; first | exact h.symm | exact h | omega
            obtain rfl : RES = ([], 3) := by have h := HS.out; rw [if_neg (by decide)] at h; exact h.symm
            clear HRES HS HNR KN KP
            go_wp2
            go_ret2
            exact ⟨_, rfl, World.ownsRow_nil _ _ _ _, HGU.out.trans G5.out⟩
          | true =>
            obtain ⟨⟨v0, v1, v2, v3⟩, -⟩ := four_cells (HB.out _ (GU.out.trans G5.out)).2
            obtain ⟨u0, u1, u2, u3, u4⟩ := five_cells (HU.out _ G5.out)
            obtain ⟨t0, t1⟩ := two_cells (HB.out _ (GU.out.trans G5.out)).1
            by_cases hp : bp = 0
            · subst hp
              clear KI KG
              obtain rfl : NV = 0 := by have h := HRES.out; simp [HAL.out] at h; first | exact h.symm | exact h | omega
              have hS := HS.out
              rw [if_pos rfl] at hS
              have HS2 := Lib.hid hS
              have HN2 := Lib.hid (HNR.out rfl)
              clear hS HS HNR HRES
              go_wp2_with fail
              refine (KP.out _ (HGU.out.trans G5.out)).mono ?_
              rintro e wp ⟨pv, rfl, hop, gp⟩
              obtain ⟨Ap, cp, rfl⟩ := own_slice hop
              have HP := Lib.hid (show SlV wp (.slice Ap PV.length cp) PV from Rd.of_own hop)
              have GP := Lib.hid (G5.out.trans gp)
              clear v0 v1 v2 v3 u0 u1 u2 u3 u4 t0 t1 hop gp KP
              obtain ⟨t0, t1⟩ := two_cells (HB.out _ (GU.out.trans GP.out)).1
              dsimp only
              by_cases hbig : 1024 < PV.length
              · have hbz : (1024 : Int) < (PV.length : Int) := by omega
                obtain rfl : RES = ([], 8) := by have h := HS2.out; rw [if_pos hbig] at h; exact h.symm
                clear HS2 HN2 KN
                go_wp2
                go_ret2
                exact ⟨_, rfl, World.ownsRow_nil _ _ _ _, HGU.out.trans GP.out⟩
              · have hbz : ¬ (1024 : Int) < (PV.length : Int) := by omega
                obtain rfl : RES = (NF, 0) := by have h := HS2.out; rw [if_neg hbig] at h; exact h.symm
                obtain rfl : NR = (NF, 0) := HN2.out hbig
                have HGP := Lib.hid (HGU.out.trans GP.out)
                clear HS2 HN2
                go_wp2_with fail
                refine (KN.out _ _ HGP.out HP.out (by omega)).mono ?_
                rintro e w8 ⟨v8, rfl, ho8, g8⟩
                obtain ⟨A8, c8, rfl⟩ := own_slice ho8
                have HO8 := Lib.hid (own_base ho8 HGP.out.size)
                have HG8 := Lib.hid (HGP.out.trans g8)
                clear ho8 g8 KN
                dsimp only
                go_wp2
                go_ret2
                exact ⟨_, rfl, HO8.out, HG8.out⟩
            have hpb : (bp != 0) = true := by simpa using hp
            go_wp2_with fail
            refine (KI.out _).mono ?_
            rintro e w6 ⟨rfl, rfl⟩
            clear KI
            dsimp only
            cases inh with
            | false =>
              obtain rfl : NV = 0 := by have h := HRES.out; simp [HAL.out, hp] at h; first | exact h.symm | exact h | omega
              clear KG
              have hS := HS.out
              rw [if_pos rfl] at hS
              have HS2 := Lib.hid hS
              have HN2 := Lib.hid (HNR.out rfl)
              clear hS HS HNR HRES
              go_wp2_with fail
              refine (KP.out _ (HGU.out.trans G5.out)).mono ?_
              rintro e wp ⟨pv, rfl, hop, gp⟩
              obtain ⟨Ap, cp, rfl⟩ := own_slice hop
              have HP := Lib.hid (show SlV wp (.slice Ap PV.length cp) PV from Rd.of_own hop)
              have GP := Lib.hid (G5.out.trans gp)
              clear v0 v1 v2 v3 u0 u1 u2 u3 u4 t0 t1 hop gp KP
              obtain ⟨t0, t1⟩ := two_cells (HB.out _ (GU.out.trans GP.out)).1
              dsimp only
              by_cases hbig : 1024 < PV.length
              · have hbz : (1024 : Int) < (PV.length : Int) := by omega
                obtain rfl : RES = ([], 8) := by have h := HS2.out; rw [if_pos hbig] at h; exact h.symm
                clear HS2 HN2 KN
                go_wp2
                go_ret2
                exact ⟨_, rfl, World.ownsRow_nil _ _ _ _, HGU.out.trans GP.out⟩
              · have hbz : ¬ (1024 : Int) < (PV.length : Int) := by omega
                obtain rfl : RES = (NF, 0) := by have h := HS2.out; rw [if_neg hbig] at h; exact h.symm
                obtain rfl : NR = (NF, 0) := HN2.out hbig
                have HGP := Lib.hid (HGU.out.trans GP.out)
                clear HS2 HN2
                go_wp2_with fail
                refine (KN.out _ _ HGP.out HP.out (by omega)).mono ?_
                rintro e w8 ⟨v8, rfl, ho8, g8⟩
                obtain ⟨A8, c8, rfl⟩ := own_slice ho8
                have HO8 := Lib.hid (own_base ho8 HGP.out.size)
                have HG8 := Lib.hid (HGP.out.trans g8)
                clear ho8 g8 KN
                dsimp only
                go_wp2
                go_ret2
                exact ⟨_, rfl, HO8.out, HG8.out⟩
            | true =>
              have kg := KG.out bp
              unfold RetVE at kg
              generalize hfr : foundR t ls vs bp ve vl = R at kg
              obtain ⟨ro, re⟩ := R
              dsimp only at kg
              have HFR := Lib.hid hfr
              clear hfr
              generalize hrs : ro.isSome = rs at kg
              generalize hrx : ro.getD val0 = x at kg
              obtain ⟨xu, xe, xl, xt⟩ := x
              unfold Val.agg at kg
              dsimp only at kg
              have KG2 := Lib.hid kg
              clear kg KG
              go_wp2_with fail
              refine (KG2.out _ (HGU.out.trans G5.out)).mono ?_
              rintro e w7 ⟨rfl, g7⟩
              have gz := g7.alloc (.cells #[.int .i64 xu, .int .i64 xe, .string xl, .string xt] 29)
              have G7 := Lib.hid (G5.out.trans gz)
              obtain ⟨⟨x0, x1, x2, x3⟩, -⟩ := four_cells (heap_newI w7 (.cells #[.int .i64 xu, .int .i64 xe, .string xl, .string xt] 29))
              clear v0 v1 v2 v3 u0 u1 u2 u3 u4 t0 t1 gz g7 KG2
              obtain ⟨⟨v0, v1, v2, v3⟩, -⟩ := four_cells (HB.out _ (GU.out.trans G7.out)).2
              obtain ⟨u0, u1, u2, u3, u4⟩ := five_cells (HU.out _ G7.out)
              obtain ⟨t0, t1⟩ := two_cells (HB.out _ (GU.out.trans G7.out)).1
              dsimp only
              cases ro with
              | none =>
                obtain rfl : rs = false := hrs.symm
                clear hrs hrx
                obtain rfl : NV = 0 := by have h := HRES.out; simp [HAL.out, hp, HFR.out, sameT] at h; first | exact h.symm | exact h | omega
                skip
                have hS := HS.out
                rw [if_pos rfl] at hS
                have HS2 := Lib.hid hS
                have HN2 := Lib.hid (HNR.out rfl)
                clear hS HS HNR HRES
                go_wp2_with fail
                refine (KP.out _ (HGU.out.trans G7.out)).mono ?_
                rintro e wp ⟨pv, rfl, hop, gp⟩
                obtain ⟨Ap, cp, rfl⟩ := own_slice hop
                have HP := Lib.hid (show SlV wp (.slice Ap PV.length cp) PV from Rd.of_own hop)
                have GP := Lib.hid (G7.out.trans gp)
                clear v0 v1 v2 v3 u0 u1 u2 u3 u4 t0 t1 hop gp KP
                obtain ⟨t0, t1⟩ := two_cells (HB.out _ (GU.out.trans GP.out)).1
                dsimp only
                by_cases hbig : 1024 < PV.length
                · have hbz : (1024 : Int) < (PV.length : Int) := by omega
                  obtain rfl : RES = ([], 8) := by have h := HS2.out; rw [if_pos hbig] at h; exact h.symm
                  clear HS2 HN2 KN
                  go_wp2
                  go_ret2
                  exact ⟨_, rfl, World.ownsRow_nil _ _ _ _, HGU.out.trans GP.out⟩
                · have hbz : ¬ (1024 : Int) < (PV.length : Int) := by omega
                  obtain rfl : RES = (NF, 0) := by have h := HS2.out; rw [if_neg hbig] at h; exact h.symm
                  obtain rfl : NR = (NF, 0) := HN2.out hbig
                  have HGP := Lib.hid (HGU.out.trans GP.out)
                  clear HS2 HN2
                  go_wp2_with fail
                  refine (KN.out _ _ HGP.out HP.out (by omega)).mono ?_
                  rintro e w8 ⟨v8, rfl, ho8, g8⟩
                  obtain ⟨A8, c8, rfl⟩ := own_slice ho8
                  have HO8 := Lib.hid (own_base ho8 HGP.out.size)
                  have HG8 := Lib.hid (HGP.out.trans g8)
                  clear ho8 g8 KN
                  dsimp only
                  go_wp2
                  go_ret2
                  exact ⟨_, rfl, HO8.out, HG8.out⟩
              | some z =>
                obtain rfl : rs = true := hrs.symm
                obtain rfl : z = ⟨xu, xe, xl, xt⟩ := hrx
                clear hrs
                cases hq : (xt.toList == vt.toList) with
                | false =>
                  have hsm : sameT vt (some (⟨xu, xe, xl, xt⟩ : Val)) = false := hq
                  obtain rfl : NV = 0 := by have h := HRES.out; simp [HAL.out, hp, HFR.out, hsm] at h; first | exact h.symm | exact h | omega
                  clear hsm
                  have hS := HS.out
                  rw [if_pos rfl] at hS
                  have HS2 := Lib.hid hS
                  have HN2 := Lib.hid (HNR.out rfl)
                  clear hS HS HNR HRES
                  go_wp2_with fail
                  refine (KP.out _ (HGU.out.trans G7.out)).mono ?_
                  rintro e wp ⟨pv, rfl, hop, gp⟩
                  obtain ⟨Ap, cp, rfl⟩ := own_slice hop
                  have HP := Lib.hid (show SlV wp (.slice Ap PV.length cp) PV from Rd.of_own hop)
                  have GP := Lib.hid (G7.out.trans gp)
                  clear v0 v1 v2 v3 u0 u1 u2 u3 u4 t0 t1 hop gp KP
                  obtain ⟨t0, t1⟩ := two_cells (HB.out _ (GU.out.trans GP.out)).1
                  dsimp only
                  by_cases hbig : 1024 < PV.length
                  · have hbz : (1024 : Int) < (PV.length : Int) := by omega
                    obtain rfl : RES = ([], 8) := by have h := HS2.out; rw [if_pos hbig] at h; exact h.symm
                    clear HS2 HN2 KN
                    go_wp2
                    go_ret2
                    exact ⟨_, rfl, World.ownsRow_nil _ _ _ _, HGU.out.trans GP.out⟩
                  · have hbz : ¬ (1024 : Int) < (PV.length : Int) := by omega
                    obtain rfl : RES = (NF, 0) := by have h := HS2.out; rw [if_neg hbig] at h; exact h.symm
                    obtain rfl : NR = (NF, 0) := HN2.out hbig
                    have HGP := Lib.hid (HGU.out.trans GP.out)
                    clear HS2 HN2
                    go_wp2_with fail
                    refine (KN.out _ _ HGP.out HP.out (by omega)).mono ?_
                    rintro e w8 ⟨v8, rfl, ho8, g8⟩
                    obtain ⟨A8, c8, rfl⟩ := own_slice ho8
                    have HO8 := Lib.hid (own_base ho8 HGP.out.size)
                    have HG8 := Lib.hid (HGP.out.trans g8)
                    clear ho8 g8 KN
                    dsimp only
                    go_wp2
                    go_ret2
                    exact ⟨_, rfl, HO8.out, HG8.out⟩
                | true =>
                  have hsm : sameT vt (some (⟨xu, xe, xl, xt⟩ : Val)) = true := hq
                  obtain rfl : NV = 6 := by have h := HRES.out; simp [HAL.out, hp, HFR.out, hsm] at h; first | exact h.symm | exact h | omega
                  clear hsm
                  obtain rfl : RES = ([], 6) := by have h := HS.out; rw [if_neg (by decide)] at h; exact h.symm
                  clear HRES HS HNR KN KP
                  go_wp2
                  go_ret2
                  exact ⟨_, rfl, World.ownsRow_nil _ _ _ _, HGU.out.trans G7.out⟩
theorem refSet29 (t : Tr) (ls : List ByteArray) (vs : List Val) (v : Val) (rv bv lv vv : Value) (w : World) (hr : SlI w rv t.roots) (hv : SlBr w bv t.brs) (hf : FewBr t.brs) (hrl : t.roots.length ≤ 1000000) (hm : ∀ i (h : i < t.brs.length), t.brs[i].mark.size ≤ 9223372036854775807) (hl : SlS w lv ls) (hvv : SlV w vv vs) (hfv : vs.length ≤ 1000000) :
    Calls Tryz.prog 18 #[.agg #[rv, bv], lv, vv, v.agg] w (RetVL (setR t ls vs v) w) := by
  by_cases h0 : ofI t ls vs = 0
  · exact refSetYes t ls vs v rv bv lv vv w hr hv hf hrl hm hl hvv hfv h0
  · exact refSetNo t ls vs v rv bv lv vv w hr hv hf hrl hm hl hvv h0
end Go.Proofs.YtjaknioojpgkiaaGreatDoor

/- The reference implementation's bound on sizes, walked once more: where it says yes, the values are at most 30, or 1025. No condition. -/
namespace Go.Proofs.YtjaknioojpgkiaaGreatDoor
open Go.RowKit

/-- How the bound ends: no, or yes and short. -/
def FewEndU (w : World) (n m : Nat) (e : Ending) (w' : World) : Prop := (e = .returned (.bool false) ∨ (e = .returned (.bool true) ∧ n ≤ 10 ∧ (m ≤ 30 ∨ m = 1025))) ∧ w = w'
set_option maxHeartbeats 4000000 in
theorem few_anyU (l : List ByteArray) (vs : List Val) (lv vv : Value) (w : World) (hl : SlS w lv l) (hv : SlV w vv vs) :
    Calls Tryz.prog 12 #[lv, vv] w fun e w' => FewEndU w l.length vs.length e w' := by
  obtain ⟨A, c, rfl, hlc, hc, hr⟩ := hl.open_
  obtain ⟨A', c', rfl, hlc', hc', hr'⟩ := hv.open_
  unfold maxLen at hc hc'
  have HR := Lib.hid hr
  have HR' := Lib.hid hr'
  clear hr hr' hl hv
  go_enter Tryz.func12, Tryz.ntmps12
  go_wp2
  go_loop [5] (fun i => ∃ k : Nat, k ≤ l.length ∧ i = .int .i64 k) (fun i => l.length - (intOf i).toNat)
  case atStart => exact ⟨0, by omega, rfl⟩
  case round =>
    obtain ⟨k, hk, rfl⟩ := hrel
    by_cases hlt : k < l.length
    · have hltz : (k : Int) < (l.length : Int) := by omega
      have h0z : (0 : Int) ≤ (k : Int) := by omega
      obtain ⟨b, off, rfl, hb, hcell⟩ := HR.out (by omega)
      have hcl := hcell w (Grew.refl w) k hlt
      generalize l[k] = y at hcl
      clear hcell
      by_cases hs : 20 < y.size
      · have hsz : (20 : Int) < (y.size : Int) := by omega
        go_wp2
        go_ret
        exact ⟨Or.inl rfl, rfl⟩
      · have hsz : decide ((20 : Int) < (y.size : Int)) = false := by simp; omega
        go_wp2
        go_round
        case rel => exact ⟨k + 1, by omega, by go_num⟩
        case measure => simp [intOf]; omega
    · have hltz : ¬ (k : Int) < (l.length : Int) := by omega
      go_wp2
      go_loop [6] (fun i => ∃ m : Nat, m ≤ vs.length ∧ i = .int .i64 m) (fun i => vs.length - (intOf i).toNat)
      case atStart => exact ⟨0, by omega, rfl⟩
      case round =>
        obtain ⟨m, hm, rfl⟩ := hrel
        by_cases hlm : m < vs.length
        · have hlmz : (m : Int) < (vs.length : Int) := by omega
          have h0m : (0 : Int) ≤ (m : Int) := by omega
          obtain ⟨b, off, rfl, hb, hcell⟩ := HR'.out (by omega)
          obtain ⟨-, -, c2, c3⟩ := hcell w (Grew.refl w) m hlm
          generalize vs[m].lang = yl at c2
          generalize vs[m].text = yt at c3
          clear hcell
          cases a1 : decide ((300 : Int) < (yt.size : Int)) <;> cases a2 : ((yt.size : Int) == 4096) <;> cases a3 : ((yt.size : Int) == 4097) <;> cases a4 : decide ((20 : Int) < (yl.size : Int))
          all_goals go_wp2
          all_goals first | (go_ret; exact ⟨Or.inl rfl, rfl⟩) | (go_round; (case rel => exact ⟨m + 1, by omega, by go_num⟩); (case measure => simp [intOf]; omega))
        · have hlmz : ¬ (m : Int) < (vs.length : Int) := by omega
          cases a1 : decide ((l.length : Int) ≤ 10) <;> cases a2 : decide ((vs.length : Int) ≤ 30) <;> cases a3 : ((vs.length : Int) == 1025)
          all_goals go_wp2
          all_goals go_ret
          all_goals refine ⟨?_, rfl⟩
          all_goals first | exact Or.inl rfl | exact Or.inr ⟨rfl, by simp at a1 a2 a3; omega, by simp at a1 a2 a3; omega⟩
end Go.Proofs.YtjaknioojpgkiaaGreatDoor

/- The bound on sizes of layer 29, walked: where it says yes, the lists are short. No condition. -/
namespace Go.Proofs.YtjaknioojpgkiaaGreatDoor
open Go.RowKit

def FewU (t : Tr) (ls : List ByteArray) (vs : List Val) : Prop := FewI t ls vs ∧ (vs.length ≤ 30 ∨ vs.length = 1025)
theorem few29_1u (s : ByteArray) (w : World) : Calls Tryz.prog 51 #[.string s] w fun e w' => e = .returned (.bool (decide (20 < (s.size : Int)))) ∧ Grew w w' := by
  go_enter Tryz.func51, Tryz.ntmps51
  go_wp2
  go_ret
  exact ⟨rfl, Grew.refl w⟩
theorem enters_few29u : ∀ args w, (callFunc 51 args).run Tryz.prog w = .ok (.enter 51 args) w := enters_of Tryz.func51 (by kernel_rfl) rfl
set_option maxHeartbeats 2000000 in
theorem fewLawU (t : Tr) (ls : List ByteArray) (vs : List Val) (ms : List ByteArray) (rv bv lv vv mv : Value) (w : World) (hr : SlI w rv t.roots) (hv : SlBr w bv t.brs) (hl : SlS w lv ls) (hvv : SlV w vv vs) (hm : SlS w mv ms) :
    Calls Tryz.prog 11 #[.agg #[rv, bv], lv, vv, mv] w (YesIf (FewU t ls vs) w) := by
  have KT := Lib.hid (fun W (hW : Grew w W) => few19_m t.roots t.brs rv bv W (hr.mono hW) (hv.mono hW))
  have KL := Lib.hid (fun W (hW : Grew w W) => few_anyU ls vs lv vv W (hl.mono hW) (hvv.mono hW))
  have KM := Lib.hid (fun W (hW : Grew w W) => containsFuncS ms (fun s => decide (20 < (s.size : Int))) _ #[] enters_few29u mv W (hm.mono hW) (fun W2 x _ _ => by rw [show (#[Value.string x] ++ #[] : Array Value) = #[.string x] by simp]; exact few29_1u x W2))
  obtain ⟨Ar, cr, rfl, -⟩ := hr.open_
  obtain ⟨Ab, cb, rfl, -⟩ := hv.open_
  have HFI := Lib.hid (show FewTM t.roots t.brs → ls.length ≤ 10 → (vs.length ≤ 30 ∨ vs.length = 1025) → FewU t ls vs from fun a b c => ⟨⟨a, b, by omega⟩, c⟩)
  generalize FewU t ls vs = FI at HFI ⊢
  generalize (ms.any fun s => decide (20 < (s.size : Int))) = m at KM
  clear hr hv hl hvv hm
  go_enter Tryz.func11, Tryz.ntmps11
  go_wp2_with fail
  refine (KT.out _ ((Grew.refl w).alloc _)).mono ?_
  rintro e w1 ⟨q, rfl, hq, g1⟩
  have HQ := Lib.hid hq
  have HG1 := Lib.hid (((Grew.refl w).alloc _).trans g1)
  clear hq g1 KT
  dsimp only
  cases q with
  | false =>
    go_wp2
    go_ret
    exact YesIf.no HG1.out
  | true =>
    go_wp2_with fail
    refine (KL.out _ HG1.out).mono ?_
    rintro e w2 ⟨h2, rfl⟩
    rcases h2 with rfl | ⟨rfl, h3, h4⟩
    · dsimp only
      go_wp2
      go_ret
      exact YesIf.no HG1.out
    · have HF := Lib.hid (HFI.out (HQ.out (by first | rfl | trivial)) h3 h4)
      clear h3 h4 HQ HFI
      dsimp only
      go_wp2_with fail
      refine (KM.out _ HG1.out).mono ?_
      rintro e w3 ⟨rfl, g3⟩
      have HG3 := Lib.hid (HG1.out.trans g3)
      clear g3 KM
      dsimp only
      cases m with
      | true =>
        go_wp2
        go_ret
        exact YesIf.no HG3.out
      | false =>
        go_wp2
        go_ret
        exact YesIf.yes HF.out HG3.out
end Go.Proofs.YtjaknioojpgkiaaGreatDoor

/-
  DERIVED: THE SHELF's CONTRACTS AT THIS DUMP, IN PLAIN WORDS (tools/lay-plain.mjs out of 'YtjaknioojpgkiaaGreatDoorShelf4.lean', which tools/lay-shelf.mjs wrote): THE SAME DECLARATIONS UNDER THE SAME NAMES: 'import', 'namespace', 'open', 'def', 'theorem' AND NOTHING ELSE: no command of the shelf's: FOR A HAND-IN. Each laying: the table of numbers ('.._ren') and one theorem, a field a fact of the dump's own or the kernel's comparison; each contract: ONE APPLICATION.
-/
namespace Go.Proofs
open Go.Shelf
def Tryz.sortV_ren : Go.Shelf.Ren := ⟨fun | 6 => 45 | 15 => 107 | 14 => 106 | 28 => 155 | 29 => 156 | 20 => 147 | 21 => 148 | 22 => 149 | 23 => 150 | 24 => 151 | 25 => 152 | 26 => 153 | 27 => 154 | 46 => 203 | 47 => 204 | 48 => 205 | 49 => 206 | 50 => 207 | 57 => 243 | n => n, fun | 22 => 27 | 24 => 29 | 25 => 76 | 3 => 3 | 39 => 135 | 0 => 0 | 53 => 179 | 55 => 181 | 4 => 4 | 46 => 173 | 45 => 172 | 50 => 88 | 5 => 5 | 9 => 9 | 66 => 204 | 70 => 208 | 76 => 234 | 77 => 235 | n => n, fun | n => n⟩
theorem Tryz.sortV : Go.Proofs.SlLaysF0.n6 Tryz.prog Tryz.sortV_ren := {
  mixed := by kernel_rfl
  f6 := ⟨Tryz.f45.name, by decide, Tryz.func45.trans (congrArg some (by kernel_rfl))⟩
  f14 := ⟨Tryz.f106.name, by decide, Tryz.func106.trans (congrArg some (by kernel_rfl))⟩
  f15 := Tryz.func107.trans (congrArg some (by kernel_rfl))
  f20 := ⟨Tryz.f147.name, by decide, Tryz.func147.trans (congrArg some (by kernel_rfl))⟩
  f21 := ⟨Tryz.f148.name, by decide, Tryz.func148.trans (congrArg some (by kernel_rfl))⟩
  f22 := ⟨Tryz.f149.name, by decide, Tryz.func149.trans (congrArg some (by kernel_rfl))⟩
  f23 := ⟨Tryz.f150.name, by decide, Tryz.func150.trans (congrArg some (by kernel_rfl))⟩
  f24 := ⟨Tryz.f151.name, by decide, Tryz.func151.trans (congrArg some (by kernel_rfl))⟩
  f25 := ⟨Tryz.f152.name, by decide, Tryz.func152.trans (congrArg some (by kernel_rfl))⟩
  f26 := ⟨Tryz.f153.name, by decide, Tryz.func153.trans (congrArg some (by kernel_rfl))⟩
  f27 := ⟨Tryz.f154.name, by decide, Tryz.func154.trans (congrArg some (by kernel_rfl))⟩
  f28 := Tryz.func155.trans (congrArg some (by kernel_rfl))
  f29 := Tryz.func156.trans (congrArg some (by kernel_rfl))
  f46 := ⟨Tryz.f203.name, by decide, Tryz.func203.trans (congrArg some (by kernel_rfl))⟩
  f47 := Tryz.func204.trans (congrArg some (by kernel_rfl))
  f48 := Tryz.func205.trans (congrArg some (by kernel_rfl))
  f49 := ⟨Tryz.f206.name, by decide, Tryz.func206.trans (congrArg some (by kernel_rfl))⟩
  f50 := ⟨Tryz.f207.name, by decide, Tryz.func207.trans (congrArg some (by kernel_rfl))⟩
  f57 := ⟨Tryz.f243.name, by decide, Tryz.func243.trans (congrArg some (by kernel_rfl))⟩
  t0 := Tryz.underlying0
  a0 := Tryz.isAgg0
  z0 := Tryz.sizeOf0
  v0 := Tryz.zeroValue0
  t3 := Tryz.underlying3
  a3 := Tryz.isAgg3
  z3 := Tryz.sizeOf3
  v3 := Tryz.zeroValue3
  t4 := Tryz.underlying4
  a4 := Tryz.isAgg4
  z4 := Tryz.sizeOf4
  v4 := Tryz.zeroValue4
  t5 := Tryz.underlying5
  a5 := Tryz.isAgg5
  z5 := Tryz.sizeOf5
  v5 := Tryz.zeroValue5
  t9 := Tryz.underlying9
  a9 := Tryz.isAgg9
  z9 := Tryz.sizeOf9
  v9 := Tryz.zeroValue9
  t22 := Tryz.underlying27
  a22 := Tryz.isAgg27
  z22 := Tryz.sizeOf27
  v22 := Tryz.zeroValue27
  t25 := Tryz.underlying76
  a25 := Tryz.isAgg76
  z25 := Tryz.sizeOf76
  v25 := Tryz.zeroValue76
  t39 := Tryz.underlying135
  a39 := Tryz.isAgg135
  z39 := Tryz.sizeOf135
  v39 := Tryz.zeroValue135
  t45 := Tryz.underlying172
  a45 := Tryz.isAgg172
  z45 := Tryz.sizeOf172
  v45 := Tryz.zeroValue172
  t46 := Tryz.underlying173
  a46 := Tryz.isAgg173
  z46 := Tryz.sizeOf173
  v46 := Tryz.zeroValue173
  t50 := Tryz.underlying88
  a50 := Tryz.isAgg88
  z50 := Tryz.sizeOf88
  v50 := Tryz.zeroValue88
  t53 := Tryz.underlying179
  a53 := Tryz.isAgg179
  z53 := Tryz.sizeOf179
  v53 := Tryz.zeroValue179
  t55 := Tryz.underlying181
  a55 := Tryz.isAgg181
  z55 := Tryz.sizeOf181
  v55 := Tryz.zeroValue181
  t66 := Tryz.underlying204
  a66 := Tryz.isAgg204
  z66 := Tryz.sizeOf204
  v66 := Tryz.zeroValue204
  t70 := Tryz.underlying208
  a70 := Tryz.isAgg208
  z70 := Tryz.sizeOf208
  v70 := Tryz.zeroValue208
  t76 := Tryz.underlying234
  a76 := Tryz.isAgg234
  z76 := Tryz.sizeOf234
  v76 := Tryz.zeroValue234
  t77 := Tryz.underlying235
  a77 := Tryz.isAgg235
  z77 := Tryz.sizeOf235
  v77 := Tryz.zeroValue235 }
open Go.RowKit Go.Sort Go.Lib in
theorem Tryz.slices_SortFunc4 {α : Type} [Inhabited α] (enc : α → List Value) (hk : ∀ x, (enc x).length = 4) (h1 : ∀ x, ∀ v ∈ enc x, v.oneCell' = true) (cf : α → α → Int) (hO : SWO (ltOf cf)) (g : Nat) (cb : Array Value) (blk off cap : Nat) (d : Array α) (w : World)
    (eg : ∀ args w, (callFunc g args).run Tryz.prog w = .ok (.enter g args) w) (hcmp : CmpLays Tryz.prog g cb enc 4 cf blk off d.size w) (hH : HoldsK enc 4 w blk off d) (hblk : blk < w.heap.size) (hsz : d.size < 4611686018427387904) :
    Calls Tryz.prog 45 #[.slice (some ⟨blk, off, none⟩) d.size cap, .func (.func g) #[] cb] w fun e w' =>
      e = .returned (.tuple #[]) ∧ ∃ d' n os, PermIn 0 d.size d d' ∧ SortedIn (ltOf cf) 0 d.size d' ∧ w' = sortWorldK enc 4 w blk off n d' os := AnyQ.slices_SortFunc Tryz.sortV 4 Tryz.isAgg29 Tryz.sizeOf29 enc hk h1 cf hO g cb blk off cap d w eg hcmp hH hblk hsz
end Go.Proofs
