/- Lemmas on what the functions of the program and of the library compute: IB. The conditions stand at each. -/
import Derived.Test.YtjaknioojpgkiaaGreatDoorQ12
import Derived.Test.YtjaknioojpgkiaaGreatDoorQ21
import Derived.Test.YtjaknioojpgkiaaGreatDoorQ24
/- inherit.Found, walked. The conditions: the library's own variables hold what they must; the lists are short. -/
namespace Go.Proofs.YtjaknioojpgkiaaGreatDoor
open Go.RowKit

theorem first_ask (t : Tr) (ls : List ByteArray) (vs : List Val) (u n : Int) (lang : ByteArray) (h : Int) (hh : ∀ rest, orF (ofI t ls vs :: h :: rest) = orF (ofI t ls vs :: hasI t u :: rest)) (W : World) :
    Calls Tryz.prog 89 #[.slice (some ⟨W.heap.size, 0, none⟩) 4 4] (W.alloc (.cells #[.int .i64 (ofI t ls vs), .int .i64 h, .int .i64 (numI n), .int .i64 (lanI lang)] 33)) fun e w' => e = .returned (.int .i64 (askI t ls vs u n lang)) ∧ Grew (W.alloc (.cells #[.int .i64 (ofI t ls vs), .int .i64 h, .int .i64 (numI n), .int .i64 (lanI lang)] 33)) w' := by
  refine (iFirst [ofI t ls vs, h, numI n, lanI lang] _ _ (err_lit W [ofI t ls vs, h, numI n, lanI lang] 4 rfl (by decide))).mono ?_
  rintro e w' ⟨rfl, g⟩
  refine ⟨?_, g⟩
  rw [hh]
  rfl
set_option maxHeartbeats 4000000 in
set_option maxRecDepth 100000 in
theorem iFoundX (t : Tr) (ls : List ByteArray) (vs : List Val) (u n : Int) (lang : ByteArray) (rv bv lv vv : Value) (w : World) (hE : Env w) (hr : SlI w rv t.roots) (hv : SlBr w bv t.brs) (hf : FewBr t.brs) (hrl : t.roots.length ≤ 1000000) (hl : SlS w lv ls) (hvv : SlV w vv vs) :
    Calls Tryz.prog 31 #[.agg #[rv, bv], lv, vv, .int .i64 u, .int .i64 n, .string lang] w (RetVE (foundR t ls vs u n lang) w) := by
  have kA := fun W (hW : Grew w W) => iOfAsk t ls vs rv bv lv vv W (hE.mono hW) (hr.mono hW) (hv.mono hW) hf hrl (hl.mono hW) (hvv.mono hW)
  have KF := Lib.hid (fun (h : askI t ls vs u n lang = 0) rv' bv' lv' vv' W (hv' : SlBr W bv' t.brs) (hvv' : SlV W vv' vs) => iFound t vs u n lang rv' bv' lv' vv' W (askI_zero.1 h).1.1 hv' hvv' (.inr (askI_zero.1 h).2.1))
  have HZ := Lib.hid (fun h : askI t ls vs u n lang = 0 => ofI_zero.2 (askI_zero.1 h).1)
  have KO := Lib.hid (first_ask t ls vs u n lang)
  have KN := Lib.hid (fun W => iNumber n W)
  have KL := Lib.hid (fun W => iLanguage lang W)
  unfold foundR
  unfold RetOA at kA
  generalize askI t ls vs u n lang = N at KF HZ KO ⊢
  generalize foundF t.brs vs u n lang = o at KF ⊢
  generalize ofI t ls vs = N0 at kA KO HZ
  generalize numI n = NN at KN KO
  generalize lanI lang = NL at KL KO
  have KA := Lib.hid kA
  obtain ⟨Ar0, cr0, rfl, -⟩ := hr.open_
  obtain ⟨Ab0, cb0, rfl, -⟩ := hv.open_
  clear kA hE hr hv hf hrl hl hvv
  have HB := Lib.hid (show ∀ W, Grew ((w.alloc (.cells [.slice Ar0 t.roots.length cr0, .slice Ab0 t.brs.length cb0].toArray 25)).alloc (.cells [.int .i64 0, .int .i64 0, .string ⟨#[]⟩, .string ⟨#[]⟩].toArray 29)) W → W.heap[w.heap.size + 1]? = some (.cells #[.int .i64 0, .int .i64 0, .string ⟨#[]⟩, .string ⟨#[]⟩] 29 (0, 0)) from fun W g => by
    have e2 := heap_newI (w.alloc (.cells [.slice Ar0 t.roots.length cr0, .slice Ab0 t.brs.length cb0].toArray 25)) (.cells [.int .i64 0, .int .i64 0, .string ⟨#[]⟩, .string ⟨#[]⟩].toArray 29)
    rw [World.size_alloc] at e2
    exact heap_keepI g e2)
  have GA := Lib.hid (((Grew.refl w).alloc (.cells [.slice Ar0 t.roots.length cr0, .slice Ab0 t.brs.length cb0].toArray 25)).alloc (.cells [.int .i64 0, .int .i64 0, .string ⟨#[]⟩, .string ⟨#[]⟩].toArray 29))
  by_cases hz : N = 0
  · subst hz
    rw [if_pos rfl]
    obtain rfl := HZ.out rfl
    unfold RetV at KF
    unfold RetVE
    generalize o.isSome = s at KF ⊢
    generalize o.getD val0 = x at KF ⊢
    obtain ⟨xu, xe, xl, xt⟩ := x
    unfold Val.agg at KF ⊢
    dsimp only at KF ⊢
    go_enter Tryz.func31, Tryz.ntmps31
    go_wp2_with fail
    generalize (w.alloc (.cells [.slice Ar0 t.roots.length cr0, .slice Ab0 t.brs.length cb0].toArray 25)).alloc (.cells [.int .i64 0, .int .i64 0, .string ⟨#[]⟩, .string ⟨#[]⟩].toArray 29) = WA at GA HB ⊢
    refine (KA.out _ GA.out).mono ?_
    rintro e w1 ⟨Ar, nr, cr, Ab, nb, cb, Al, nl, cl, Av, nv, cv, rfl, g1, HAS, GOOD⟩
    obtain ⟨h, hH, hREST⟩ := HAS.out u
    have HH := Lib.hid hH
    have HREST := Lib.hid hREST
    have G1 := Lib.hid (g1.alloc (.cells #[.slice Ar nr cr, .slice Ab nb cb, .slice Al nl cl, .slice Av nv cv] 114))
    have HS := Lib.hid (show ∀ W, Grew (w1.alloc (.cells #[.slice Ar nr cr, .slice Ab nb cb, .slice Al nl cl, .slice Av nv cv] 114)) W → W.heap[w1.heap.size]? = some (.cells #[.slice Ar nr cr, .slice Ab nb cb, .slice Al nl cl, .slice Av nv cv] 114 (0, 0)) from fun W g => heap_keepI g (heap_newI w1 _))
    clear g1 hH hREST KA HAS
    dsimp only
    go_wp2_with fail
    refine (HH.out _ G1.out).mono ?_
    rintro e w2 ⟨rfl, g2⟩
    have G2 := Lib.hid g2
    clear g2 HH
    dsimp only
    go_wp2_with fail
    refine (KN.out _).mono ?_
    rintro e w3 ⟨rfl, g3⟩
    have G3 := Lib.hid (G2.out.trans g3)
    clear g3 G2
    dsimp only
    go_wp2_with fail
    refine (KL.out _).mono ?_
    rintro e w4 ⟨rfl, g4⟩
    have G4 := Lib.hid (G3.out.trans g4)
    clear g4 G3
    dsimp only
    go_wp2_with fail
    refine (KO.out h HREST.out _).mono ?_
    rintro e w5 ⟨rfl, g5⟩
    have G5 := Lib.hid ((G4.out.alloc _).trans g5)
    clear g5 G4 KO HREST KN KL
    have G15 := Lib.hid (G1.out.trans G5.out)
    obtain ⟨⟨x0, x1, x2, x3⟩, -⟩ := four_cells (HS.out _ G5.out)
    obtain ⟨hr', hv', hl', hvv'⟩ := GOOD.out (by first | rfl | trivial)
    have HK := Lib.hid (KF.out (by first | rfl | trivial) (.slice Ar nr cr) (.slice Ab nb cb) (.slice Al nl cl) (.slice Av nv cv) w5 (hv'.mono G15.out) (hvv'.mono G15.out))
    clear hr' hv' hl' hvv' GOOD KF
    dsimp only
    go_wp2_with fail
    refine HK.out.mono ?_
    rintro e w6 ⟨rfl, g6⟩
    have G6 := Lib.hid (G15.out.trans (g6.alloc (.cells #[.int .i64 xu, .int .i64 xe, .string xl, .string xt] 29)))
    have HG6 := Lib.hid (GA.out.trans G6.out)
    clear x0 x1 x2 x3 g6
    obtain ⟨⟨q0, q1, q2, q3⟩, z0, z1, z2, z3⟩ := four_cells (HB.out _ G6.out)
    dsimp only
    go_wp2_with fail
    obtain ⟨p0, p1, p2, p3⟩ := res_four (v0 := .int .i64 xu) (v1 := .int .i64 xe) (v2 := .string xl) (v3 := .string xt) q0 q1 q2 q3
    refine bodyPost_ret (v := .tuple #[.agg #[.int .i64 xu, .int .i64 xe, .string xl, .string xt], .bool s, .int .i64 0]) (by simp [results, Tryz.results31, go_sem, p0, p1, p2, p3]) rfl ?_
    exact ⟨rfl, grew_four HG6.out (by omega) _ _ _ _⟩
  · rw [if_neg hz]
    have hb : (N != 0) = true := by simpa using hz
    clear KF hz HZ
    unfold RetVE
    go_enter Tryz.func31, Tryz.ntmps31
    go_wp2_with fail
    generalize (w.alloc (.cells [.slice Ar0 t.roots.length cr0, .slice Ab0 t.brs.length cb0].toArray 25)).alloc (.cells [.int .i64 0, .int .i64 0, .string ⟨#[]⟩, .string ⟨#[]⟩].toArray 29) = WA at GA HB ⊢
    refine (KA.out _ GA.out).mono ?_
    rintro e w1 ⟨Ar, nr, cr, Ab, nb, cb, Al, nl, cl, Av, nv, cv, rfl, g1, HAS, GOOD⟩
    obtain ⟨h, hH, hREST⟩ := HAS.out u
    have HH := Lib.hid hH
    have HREST := Lib.hid hREST
    have G1 := Lib.hid (g1.alloc (.cells #[.slice Ar nr cr, .slice Ab nb cb, .slice Al nl cl, .slice Av nv cv] 114))
    clear g1 hH hREST KA HAS GOOD
    dsimp only
    go_wp2_with fail
    refine (HH.out _ G1.out).mono ?_
    rintro e w2 ⟨rfl, g2⟩
    have G2 := Lib.hid g2
    clear g2 HH
    dsimp only
    go_wp2_with fail
    refine (KN.out _).mono ?_
    rintro e w3 ⟨rfl, g3⟩
    have G3 := Lib.hid (G2.out.trans g3)
    clear g3 G2
    dsimp only
    go_wp2_with fail
    refine (KL.out _).mono ?_
    rintro e w4 ⟨rfl, g4⟩
    have G4 := Lib.hid (G3.out.trans g4)
    clear g4 G3
    dsimp only
    go_wp2_with fail
    refine (KO.out h HREST.out _).mono ?_
    rintro e w5 ⟨rfl, g5⟩
    have G5 := Lib.hid (G1.out.trans ((G4.out.alloc _).trans g5))
    clear g5 G4 KO HREST KN KL
    have HG5 := Lib.hid (GA.out.trans G5.out)
    obtain ⟨⟨q0, q1, q2, q3⟩, z0, z1, z2, z3⟩ := four_cells (HB.out _ G5.out)
    dsimp only
    go_wp2_with fail
    obtain ⟨p0, p1, p2, p3⟩ := res_four (v0 := .int .i64 0) (v1 := .int .i64 0) (v2 := .string ⟨#[]⟩) (v3 := .string ⟨#[]⟩) q0 q1 q2 q3
    refine bodyPost_ret (v := .tuple #[.agg #[.int .i64 0, .int .i64 0, .string ⟨#[]⟩, .string ⟨#[]⟩], .bool false, .int .i64 N]) (by simp [results, Tryz.results31, go_sem, p0, p1, p2, p3]) rfl ?_
    exact ⟨rfl, grew_four HG5.out (by omega) _ _ _ _⟩
end Go.Proofs.YtjaknioojpgkiaaGreatDoor
