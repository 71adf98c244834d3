/- Lemmas on what the functions of the program and of the library compute: IF. The conditions stand at each. -/
import Derived.Test.YtmbpeniaefpljaaGreatDoorQ28
import Derived.Test.YtmbpeniaefpljaaGreatDoorQ29
import Derived.Test.YtmbpeniaefpljaaGreatDoorQ10
import Derived.Test.YtmbpeniaefpljaaGreatDoorQ18
/- inherit.Reach, walked. The conditions: the library's own variables hold what they must; the lists are short. -/
namespace Go.Proofs.YtmbpeniaefpljaaGreatDoor
open Go.RowKit

def rq (unit : Int) : Option Val → Bool
  | none => false
  | some v => v.unit == unit
theorem reachF_rq (t : Tr) (vs : List Val) (unit n : Int) (lang : ByteArray) : reachF t vs unit n lang = (belowT t 0).filter fun u => rq unit (foundF t.brs vs u n lang) := by
  unfold reachF
  congr 1
  funext u
  cases foundF t.brs vs u n lang <;> rfl
set_option maxHeartbeats 2000000 in
theorem iReach1 (o : Option Val) (x n unit : Int) (lang : ByteArray) (Ar Ab Al Av : Option Addr) (nr cr nb cb nl cl nv cv : Nat) (Sb Nb Lb Ub : Nat) (W : World) (hs : W.heap[Sb]? = some (.cells #[.slice Ar nr cr, .slice Ab nb cb, .slice Al nl cl, .slice Av nv cv] 68 (0, 0)))
    (hn : W.heap[Nb]? = some (.cells #[.int .i64 n] 3 (0, 0))) (hl : W.heap[Lb]? = some (.cells #[.string lang] 9 (0, 0))) (hu : W.heap[Ub]? = some (.cells #[.int .i64 unit] 3 (0, 0)))
    (hK : Calls Tryz.prog 48 #[.agg #[.slice Ar nr cr, .slice Ab nb cb, .slice Al nl cl, .slice Av nv cv], .int .i64 x, .int .i64 n, .string lang] W (RetV o W)) :
    Calls Tryz.prog 55 (#[.int .i64 x] ++ #[.pointer (some ⟨Sb, 0, none⟩), .pointer (some ⟨Nb, 0, none⟩), .pointer (some ⟨Lb, 0, none⟩), .pointer (some ⟨Ub, 0, none⟩)]) W fun e w' => e = .returned (.bool (!rq unit o)) ∧ Grew W w' := by
  obtain ⟨⟨x0, x1, x2, x3⟩, -⟩ := four_cells hs
  have y0 := (one_cell hn).1
  have z0 := (one_cell hl).1
  have HU := Lib.hid (fun W' (g : Grew W W') => (one_cell (heap_keepI g hu)).1)
  unfold RetV at hK
  cases o with
  | none =>
    unfold Val.agg val0 at hK
    dsimp only [Option.getD_none, Option.isSome_none] at hK
    have HK := Lib.hid hK
    clear hs hn hl hu hK HU
    unfold rq
    go_enter Tryz.func55, Tryz.ntmps55
    go_wp2_with fail
    refine HK.out.mono ?_
    rintro e w2 ⟨rfl, g2⟩
    have HG := Lib.hid (g2.alloc (.cells #[.int .i64 0, .int .i64 0, .string ⟨#[]⟩, .string ⟨#[]⟩] 31))
    clear x0 x1 x2 x3 y0 z0 g2
    dsimp only
    go_wp2
    go_ret
    exact ⟨rfl, HG.out⟩
  | some v =>
    obtain ⟨vu, ve, vl, vt⟩ := v
    unfold Val.agg at hK
    dsimp only [Option.getD_some, Option.isSome_some] at hK
    have HK := Lib.hid hK
    clear hs hn hl hu hK
    unfold rq
    dsimp only
    have hq : (vu != unit) = !(vu == unit) := rfl
    cases hb : (vu == unit) with
    | true =>
      rw [hb] at hq
      go_enter Tryz.func55, Tryz.ntmps55
      go_wp2_with fail
      refine HK.out.mono ?_
      rintro e w2 ⟨rfl, g2⟩
      have gz := g2.alloc (.cells #[.int .i64 vu, .int .i64 ve, .string vl, .string vt] 31)
      have u0 := HU.out _ gz
      have HG := Lib.hid gz
      clear x0 x1 x2 x3 y0 z0 g2 gz
      dsimp only
      go_wp2
      go_ret
      exact ⟨rfl, HG.out⟩
    | false =>
      rw [hb] at hq
      go_enter Tryz.func55, Tryz.ntmps55
      go_wp2_with fail
      refine HK.out.mono ?_
      rintro e w2 ⟨rfl, g2⟩
      have gz := g2.alloc (.cells #[.int .i64 vu, .int .i64 ve, .string vl, .string vt] 31)
      have u0 := HU.out _ gz
      have HG := Lib.hid gz
      clear x0 x1 x2 x3 y0 z0 g2 gz
      dsimp only
      go_wp2
      go_ret
      exact ⟨rfl, HG.out⟩
theorem enters_iReach1 : ∀ args w, (callFunc 55 args).run Tryz.prog w = .ok (.enter 55 args) w := enters_of Tryz.func55 (by kernel_rfl) rfl
theorem below_there {t : Tr} (hT : RightT t) {x : Int} (hx : x ∈ belowT t 0) : ∃ b, brFind t.brs x = some b := by
  have hS := right_sound hT
  obtain ⟨c, hc, e⟩ := (all_mem_iff hS x).1 hx
  exact ⟨c, by rw [← e]; exact find_byid hS.asc hc⟩
theorem held7 (w1 W : World) {p0 p1 p2 p3 q0 q1 q2 : Addr} {x0 x1 x2 x3 y0 y1 y2 : Value} (a0 : w1.cell? p0 = some x0) (a1 : w1.cell? p1 = some x1) (a2 : w1.cell? p2 = some x2) (a3 : w1.cell? p3 = some x3) (c0 : w1.cell? q0 = some y0) (c1 : w1.cell? q1 = some y1) (c2 : w1.cell? q2 = some y2) (g : Grew w1 W) :
    W.cell? p0 = some x0 ∧ W.cell? p1 = some x1 ∧ W.cell? p2 = some x2 ∧ W.cell? p3 = some x3 ∧ W.cell? q0 = some y0 ∧ W.cell? q1 = some y1 ∧ W.cell? q2 = some y2 ∧ Grew w1 W := ⟨keep_cell g a0, keep_cell g a1, keep_cell g a2, keep_cell g a3, keep_cell g c0, keep_cell g c1, keep_cell g c2, g⟩
/-- The boxes of Reach ahead of its calls. -/
def reachBox (w : World) (rv bv : Value) (u n : Int) (lang : ByteArray) : World := (((w.alloc (.cells #[rv, bv] 25)).alloc (.cells #[.int .i64 u] 3)).alloc (.cells #[.int .i64 n] 3)).alloc (.cells #[.string lang] 9)
theorem reachBox_is (w : World) (rv bv : Value) (u n : Int) (lang : ByteArray) : Grew w (reachBox w rv bv u n lang) ∧ ∀ W, Grew (reachBox w rv bv u n lang) W → W.heap[w.heap.size + 1]? = some (.cells #[.int .i64 u] 3 (0, 0)) ∧ W.heap[w.heap.size + 2]? = some (.cells #[.int .i64 n] 3 (0, 0)) ∧ W.heap[w.heap.size + 3]? = some (.cells #[.string lang] 9 (0, 0)) := by
  unfold reachBox
  generalize hA : w.alloc (.cells #[rv, bv] 25) = A
  have sA : A.heap.size = w.heap.size + 1 := by rw [← hA, World.size_alloc]
  have gA : Grew w A := by rw [← hA]; exact (Grew.refl w).alloc _
  have e1 := heap_newI A (.cells #[.int .i64 u] 3)
  generalize hB : A.alloc (.cells #[.int .i64 u] 3) = B at e1 ⊢
  have sB : B.heap.size = w.heap.size + 2 := by rw [← hB, World.size_alloc, sA]
  have gB : Grew A B := by rw [← hB]; exact (Grew.refl A).alloc _
  have e2 := heap_newI B (.cells #[.int .i64 n] 3)
  generalize hC : B.alloc (.cells #[.int .i64 n] 3) = C at e2 ⊢
  have sC : C.heap.size = w.heap.size + 3 := by rw [← hC, World.size_alloc, sB]
  have gC : Grew B C := by rw [← hC]; exact (Grew.refl B).alloc _
  have e3 := heap_newI C (.cells #[.string lang] 9)
  have gD := (Grew.refl C).alloc (.cells #[.string lang] 9)
  rw [sA] at e1
  rw [sB] at e2
  rw [sC] at e3
  exact ⟨((gA.trans gB).trans gC).trans gD, fun W g => ⟨heap_keepI ((gC.trans gD).trans g) e1, heap_keepI (gD.trans g) e2, heap_keepI g e3⟩⟩
set_option maxHeartbeats 8000000 in
set_option maxRecDepth 100000 in
theorem iReachX (t : Tr) (ls : List ByteArray) (vs : List Val) (u n : Int) (lang : ByteArray) (rv bv lv vv : Value) (w : World) (hE : Env w) (hr : SlI w rv t.roots) (hv : SlBr w bv t.brs) (hf : FewBr t.brs) (hrl : t.roots.length ≤ 1000000) (hl : SlS w lv ls) (hvv : SlV w vv vs) :
    Calls Tryz.prog 20 #[.agg #[rv, bv], lv, vv, .int .i64 u, .int .i64 n, .string lang] w (RetNL (reachR t ls vs u n lang) w) := by
  have kA := fun W (hW : Grew w W) => iOfAsk t ls vs rv bv lv vv W (hE.mono hW) (hr.mono hW) (hv.mono hW) hf hrl (hl.mono hW) (hvv.mono hW)
  have KF := Lib.hid (fun (h : askI t ls vs u n lang = 0) x (hx : x ∈ belowT t 0) rv' bv' lv' vv' W (hv' : SlBr W bv' t.brs) (hvv' : SlV W vv' vs) => iFound t vs x n lang rv' bv' lv' vv' W (askI_zero.1 h).1.1 hv' hvv' (.inr (below_there (askI_zero.1 h).1.1 hx)))
  have KB := Lib.hid (fun (h : askI t ls vs u n lang = 0) rv' bv' lv' vv' W (hE' : Env W) (hr' : SlI W rv' t.roots) (hv' : SlBr W bv' t.brs) => iOrder t rv' bv' lv' vv' W hE' hr' hv' hf hrl (askI_zero.1 h).1.1 (Nat.le_trans (below_len (right_sound (askI_zero.1 h).1.1) 0 (.inl rfl)) hf.1))
  have HZ := Lib.hid (fun h : askI t ls vs u n lang = 0 => ofI_zero.2 (askI_zero.1 h).1)
  have HE := Lib.hid hE
  have KO := Lib.hid (first_ask t ls vs u n lang)
  have KN := Lib.hid (fun W => iNumber n W)
  have KL := Lib.hid (fun W => iLanguage lang W)
  unfold reachR
  rw [reachF_rq]
  unfold RetOA at kA
  generalize askI t ls vs u n lang = N at KF KB HZ KO ⊢
  generalize belowT t 0 = L at KF KB ⊢
  generalize ofI t ls vs = N0 at kA KO HZ
  generalize numI n = NN at KN KO
  generalize lanI lang = NL at KL KO
  have KA := Lib.hid kA
  obtain ⟨Ar0, cr0, rfl, -⟩ := hr.open_
  obtain ⟨Ab0, cb0, rfl, -⟩ := hv.open_
  clear kA hE hr hv hf hrl hl hvv
  obtain ⟨ga, hb⟩ := reachBox_is w (.slice Ar0 t.roots.length cr0) (.slice Ab0 t.brs.length cb0) u n lang
  have GA := Lib.hid ga
  have HB := Lib.hid hb
  clear ga hb
  unfold reachBox at GA HB
  generalize hRES : (if N = 0 then (L.filter (fun x => rq u (foundF t.brs vs x n lang)), (0 : Int)) else ([], N)) = RES
  have HRES := Lib.hid hRES
  clear hRES
  unfold RetNL
  go_enter Tryz.func20, Tryz.ntmps20
  go_wp2_with fail
  generalize ((((w.alloc (.cells #[.slice Ar0 t.roots.length cr0, .slice Ab0 t.brs.length cb0] 25)).alloc (.cells #[.int .i64 u] 3)).alloc (.cells #[.int .i64 n] 3)).alloc (.cells #[.string lang] 9)) = WA at GA HB ⊢
  refine (KA.out _ GA.out).mono ?_
  rintro e w1 ⟨Ar, nr, cr, Ab, nb, cb, Al, nl, cl, Av, nv, cv, rfl, g1, HAS, GOOD⟩
  obtain ⟨h, hH, hREST⟩ := HAS.out u
  have HH := Lib.hid hH
  have HREST := Lib.hid hREST
  have G1 := Lib.hid (g1.alloc (.cells #[.slice Ar nr cr, .slice Ab nb cb, .slice Al nl cl, .slice Av nv cv] 68))
  have HS := Lib.hid (show ∀ W, Grew (w1.alloc (.cells #[.slice Ar nr cr, .slice Ab nb cb, .slice Al nl cl, .slice Av nv cv] 68)) W → W.heap[w1.heap.size]? = some (.cells #[.slice Ar nr cr, .slice Ab nb cb, .slice Al nl cl, .slice Av nv cv] 68 (0, 0)) from fun W g => heap_keepI g (heap_newI w1 _))
  have hs1 : w1.heap.size < (w1.alloc (.cells #[.slice Ar nr cr, .slice Ab nb cb, .slice Al nl cl, .slice Av nv cv] 68)).heap.size := by simp
  obtain ⟨⟨x0, x1, x2, x3⟩, -⟩ := four_cells (HS.out _ (Grew.refl _))
  obtain ⟨b1, b2, b3⟩ := HB.out _ G1.out
  have y0 := (one_cell b1).1
  have y1 := (one_cell b2).1
  have y2 := (one_cell b3).1
  clear g1 hH hREST KA HAS b1 b2 b3
  dsimp only
  go_wp2_with fail
  have hw1 := (Grew.refl w1).alloc (.cells #[.slice Ar nr cr, .slice Ab nb cb, .slice Al nl cl, .slice Av nv cv] 68)
  generalize w1.alloc (.cells #[.slice Ar nr cr, .slice Ab nb cb, .slice Al nl cl, .slice Av nv cv] 68) = WB at G1 HS x0 x1 x2 x3 y0 y1 y2 hs1 hw1 ⊢
  clear hw1
  have HSZ := Lib.hid (show w1.heap.size < WB.heap.size ∧ w.heap.size + 3 < WB.heap.size from ⟨hs1, (Array.getElem?_eq_some_iff.1 (HB.out _ G1.out).2.2).1⟩)
  go_cut [15] from 23 to 32 (fun s15 wx => s15 = .int .i64 N ∧ Aside (Grew WB wx))
  case first =>
    as_aux_lemma =>
      go_region_held3 (fun W => W.cell? ⟨w1.heap.size, 0, none⟩ = some (.slice Ar nr cr) ∧ W.cell? ⟨w1.heap.size, 1, none⟩ = some (.slice Ab nb cb) ∧ W.cell? ⟨w1.heap.size, 2, none⟩ = some (.slice Al nl cl) ∧ W.cell? ⟨w1.heap.size, 3, none⟩ = some (.slice Av nv cv) ∧ W.cell? ⟨w.heap.size + 1, 0, none⟩ = some (.int .i64 u) ∧ W.cell? ⟨w.heap.size + 1 + 1, 0, none⟩ = some (.int .i64 n) ∧ W.cell? ⟨w.heap.size + 1 + 1 + 1, 0, none⟩ = some (.string lang) ∧ Grew WB W) (refine held7 WB _ x0 x1 x2 x3 y0 y1 y2 (by repeat (first | exact Grew.refl WB | exact GQ.out | refine Grew.drew ?_ | refine Grew.alloc ?_ _))) (first | (go_at_call 45; refine (HH.out _ (Grew.trans (show Grew WA WB from G1.out) (by repeat (first | exact Grew.refl WB | exact GQ.out | refine Grew.drew ?_ | refine Grew.alloc ?_ _)))).mono ?_; rintro e wq ⟨rfl, gq⟩; have GQ := Lib.hid (show Grew WB wq from Grew.trans (by repeat (first | exact Grew.refl WB | exact GQ.out | refine Grew.drew ?_ | refine Grew.alloc ?_ _)) gq); clear gq) | (go_at_call 46; refine (KN.out _).mono ?_; rintro e wq ⟨rfl, gq⟩; have GQ := Lib.hid (show Grew WB wq from Grew.trans (by repeat (first | exact Grew.refl WB | exact GQ.out | refine Grew.drew ?_ | refine Grew.alloc ?_ _)) gq); clear gq) | (go_at_call 47; refine (KL.out _).mono ?_; rintro e wq ⟨rfl, gq⟩; have GQ := Lib.hid (show Grew WB wq from Grew.trans (by repeat (first | exact Grew.refl WB | exact GQ.out | refine Grew.drew ?_ | refine Grew.alloc ?_ _)) gq); clear gq) | (go_at_call 44; refine (KO.out h HREST.out _).mono ?_; rintro e wq ⟨rfl, gq⟩; have GQ := Lib.hid (show Grew WB wq from Grew.trans (by repeat (first | exact Grew.refl WB | exact GQ.out | refine Grew.drew ?_ | refine Grew.alloc ?_ _)) gq); clear gq))
      all_goals go_wp2_with fail
      all_goals go_meet
      all_goals exact ⟨rfl, (show Aside _ from GQ.out)⟩
  case rest =>
    as_aux_lemma =>
      obtain ⟨rfl, GC⟩ := hcut
      have G3 := Lib.hid (G1.out.trans GC.out)
      have HG3 := Lib.hid (GA.out.trans G3.out)
      by_cases hz : N = 0
      · subst hz
        have hres := HRES.out
        rw [if_pos rfl] at hres
        subst hres
        obtain rfl := HZ.out (by first | rfl | trivial)
        clear x0 x1 x2 x3 y0 y1 y2 HH KO HREST KN KL
        obtain ⟨⟨x0, x1, x2, x3⟩, -⟩ := four_cells (HS.out _ GC.out)
        obtain ⟨hr', hv', hl', hvv'⟩ := GOOD.out (by first | rfl | trivial)
        have HKB := Lib.hid (KB.out (by first | rfl | trivial) (.slice Ar nr cr) (.slice Ab nb cb) (.slice Al nl cl) (.slice Av nv cv) wc (HE.out.mono HG3.out) (hr'.mono G3.out) (hv'.mono G3.out))
        have HKF := Lib.hid (fun x hx W (hW : Grew WA W) => KF.out (by first | rfl | trivial) x hx (.slice Ar nr cr) (.slice Ab nb cb) (.slice Al nl cl) (.slice Av nv cv) W (hv'.mono hW) (hvv'.mono hW))
        have HBC := Lib.hid (fun W (hW : Grew WB W) => HB.out W (G1.out.trans hW))
        clear hr' hv' hl' hvv' GOOD KB KF HB
        go_wp2_with fail
        refine HKB.out.mono ?_
        rintro e w5 ⟨v5, rfl, hown, g5⟩
        have G5 := Lib.hid (GC.out.trans g5)
        have HOWN := Lib.hid hown
        have HDEL := Lib.hid (deleteFuncG L (fun x => !rq u (foundF t.brs vs x n lang)) 55 #[.pointer (some ⟨w1.heap.size, 0, none⟩), .pointer (some ⟨w.heap.size + 1 + 1, 0, none⟩), .pointer (some ⟨w.heap.size + 1 + 1 + 1, 0, none⟩), .pointer (some ⟨w.heap.size + 1, 0, none⟩)] enters_iReach1 wc.heap.size v5 w5 g5.size hown (fun W x hW hx => by
          have hlow : ∀ r, v5.ownBlock = some r → WB.heap.size ≤ r := fun r e => Nat.le_trans GC.out.size (HOWN.out.lt r e).1
          obtain ⟨c1, c2, c3⟩ := HBC.out _ G5.out
          have hsz := HSZ.out
          have hgw : Grew WA W := Below.grown (Grew.trans G1.out G5.out) hW (Grew.trans G1.out G5.out).size (fun k e => Nat.le_trans G1.out.size (hlow k e))
          exact iReach1 (foundF t.brs vs x n lang) x n u lang Ar Ab Al Av nr cr nb cb nl cl nv cv w1.heap.size (w.heap.size + 2) (w.heap.size + 3) (w.heap.size + 1) W (heap_turn hW (HS.out _ G5.out) (fun r e => by have := hlow r e; omega)) (heap_turn hW c2 (fun r e => by have := hlow r e; omega)) (heap_turn hW c3 (fun r e => by have := hlow r e; omega)) (heap_turn hW c1 (fun r e => by have := hlow r e; omega)) (HKF.out x hx W hgw)))
        simp only [Bool.not_not] at HDEL
        clear hown g5 x0 x1 x2 x3 HKB HKF
        dsimp only
        go_wp2_with fail
        refine HDEL.out.mono ?_
        rintro e w6 ⟨v6, rfl, hown6, -, hb6, -⟩
        have HO6 := Lib.hid (own_base hown6 (Grew.trans HG3.out (Grew.refl _)).size)
        have HG6 := Lib.hid (show Grew w w6 from Below.trans (Grew.trans (Grew.trans GA.out G1.out) G5.out) (hb6.mono (Grew.trans HG3.out (Grew.refl _)).size))
        clear hown6 hb6 HDEL
        dsimp only
        go_wp2
        go_ret2
        exact ⟨_, rfl, HO6.out, HG6.out⟩
      · have hb : (N != 0) = true := by simpa using hz
        have hres := HRES.out
        rw [if_neg hz] at hres
        subst hres
        clear hz HRES HZ x0 x1 x2 x3 y0 y1 y2 HH KO HREST KN KL GOOD KB KF HB
        go_wp2_with fail
        go_ret2
        exact ⟨_, rfl, World.ownsRow_nil _ _ _ _, HG3.out⟩
end Go.Proofs.YtmbpeniaefpljaaGreatDoor
