/- Lemmas on what the functions of the program and of the library compute: ID. The conditions stand at each. -/
import Derived.Test.YtjaknioojpgkiaaGreatDoorQ25
import Derived.Test.YtjaknioojpgkiaaGreatDoorQ10
import Derived.Test.YtjaknioojpgkiaaGreatDoorQ19
/- inherit.All, walked. The conditions: the library's own variables hold what they must; the lists are short. -/
namespace Go.Proofs.YtjaknioojpgkiaaGreatDoor
open Go.RowKit

theorem first_ask3 (t : Tr) (ls : List ByteArray) (vs : List Val) (u : Int) (lang : ByteArray) (h : Int) (hh : ∀ rest, orF (ofI t ls vs :: h :: rest) = orF (ofI t ls vs :: hasI t u :: rest)) (W : World) :
    Calls Tryz.prog 89 #[.slice (some ⟨W.heap.size, 0, none⟩) 3 3] (W.alloc (.cells #[.int .i64 (ofI t ls vs), .int .i64 h, .int .i64 (lanI lang)] 33)) fun e w' => e = .returned (.int .i64 (askI t ls vs u 1 lang)) ∧ Grew (W.alloc (.cells #[.int .i64 (ofI t ls vs), .int .i64 h, .int .i64 (lanI lang)] 33)) w' := by
  refine (iFirst [ofI t ls vs, h, lanI lang] _ _ (err_lit W [ofI t ls vs, h, lanI lang] 3 rfl (by decide))).mono ?_
  rintro e w' ⟨rfl, g⟩
  refine ⟨?_, g⟩
  rw [hh, askI_all]
theorem own_keep {w w' : World} {base : Nat} {e : TypeId} {k : Nat} {v : Value} {n : Nat} {xs : List Value} (h : w.ownsRow base e k v n xs) (g : Grew w w') : w'.ownsRow base e k v n xs := by
  obtain ⟨h1, h2⟩ := h
  refine ⟨h1, ?_⟩
  rcases h2 with h | ⟨g0, cap, cur, hv, hg, hc, r⟩
  · exact .inl h
  · exact .inr ⟨g0, cap, cur, hv, hg, heap_keepI g hc, r⟩
/-- The effective values of the first elements. -/
def effsF (E : Int → Option Val) (k : Nat) : List Val := ((List.range k).map fun (i : Nat) => (i : Int) + 1).filterMap E
theorem effsF_succ (E : Int → Option Val) (k : Nat) : effsF E (k + 1) = effsF E k ++ (E ((k : Int) + 1)).toList := by
  unfold effsF
  rw [List.range_succ, List.map_append, List.filterMap_append]
  cases h : E ((k : Int) + 1) <;> simp [h]
theorem effsF_len (E : Int → Option Val) (k : Nat) : (effsF E k).length ≤ k := by
  unfold effsF
  refine Nat.le_trans (List.length_filterMap_le _ _) ?_
  simp
theorem effsF_none {E : Int → Option Val} {k : Nat} (h : E ((k : Int) + 1) = none) : effsF E (k + 1) = effsF E k := by rw [effsF_succ, h]; simp
theorem effsF_some {E : Int → Option Val} {k : Nat} {x : Val} (h : E ((k : Int) + 1) = some x) : effsF E (k + 1) = effsF E k ++ [x] := by rw [effsF_succ, h]; rfl
/-- A call that returns a list of values in a row of its own, and an error. -/
def RetVL (r : List Val × Int) (w : World) (e : Ending) (w' : World) : Prop := ∃ v, e = .returned (.tuple #[v, .int .i64 r.2]) ∧ w'.ownsRow w.heap.size 29 4 v r.1.length (r.1.flatMap Val.cells) ∧ Grew w w'
set_option maxHeartbeats 4000000 in
set_option maxRecDepth 100000 in
theorem iAllX (t : Tr) (ls : List ByteArray) (vs : List Val) (u : Int) (lang : ByteArray) (rv bv lv vv : Value) (w : World) (hE : Env w) (hr : SlI w rv t.roots) (hv : SlBr w bv t.brs) (hf : FewBr t.brs) (hrl : t.roots.length ≤ 1000000) (hl : SlS w lv ls) (hvv : SlV w vv vs) :
    Calls Tryz.prog 32 #[.agg #[rv, bv], lv, vv, .int .i64 u, .string lang] w (RetVL (allR t ls vs u lang) w) := by
  have kA := fun W (hW : Grew w W) => iOfAsk t ls vs rv bv lv vv W (hE.mono hW) (hr.mono hW) (hv.mono hW) hf hrl (hl.mono hW) (hvv.mono hW)
  have kF := (fun (h : askI t ls vs u 1 lang = 0) n rv' bv' lv' vv' W (hv' : SlBr W bv' t.brs) (hl' : SlS W lv' ls) (hvv' : SlV W vv' vs) => iEff t ls vs u n lang rv' bv' lv' vv' W hl' (fun W2 lg hW2 => iFound t vs u n lg rv' bv' lv' vv' W2 (askI_zero.1 h).1.1 (hv'.mono hW2) (hvv'.mono hW2) (.inr (askI_zero.1 h).2.1)))
  have HZ := Lib.hid (fun h : askI t ls vs u 1 lang = 0 => ofI_zero.2 (askI_zero.1 h).1)
  have KO := Lib.hid (first_ask3 t ls vs u lang)
  have KL := Lib.hid (fun W => iLanguage lang W)
  have hall : allF t ls vs u lang = effsF (fun n => effF t.brs ls vs u n lang) 8 := rfl
  unfold allR
  rw [hall]
  unfold RetOA at kA
  obtain ⟨EF, hEF⟩ : ∃ EF : Int → Option Val, EF = fun n => effF t.brs ls vs u n lang := ⟨_, rfl⟩
  have kF2 := fun h n rv' bv' lv' vv' W hv' hl' hvv' => (show Calls Tryz.prog 93 #[.agg #[rv', bv', lv', vv'], .int .i64 u, .int .i64 n, .string lang] W (RetV (EF n) W) by rw [hEF]; exact kF h n rv' bv' lv' vv' W hv' hl' hvv')
  rw [← hEF]
  have KF := Lib.hid kF2
  clear kF kF2 hall hEF
  generalize askI t ls vs u 1 lang = N at KF HZ KO ⊢
  generalize ofI t ls vs = N0 at kA KO HZ
  generalize lanI lang = NL at KL KO
  have KA := Lib.hid kA
  obtain ⟨Ar0, cr0, rfl, -⟩ := hr.open_
  obtain ⟨Ab0, cb0, rfl, -⟩ := hv.open_
  clear kA hE hr hv hf hrl hl hvv
  have GA := Lib.hid ((Grew.refl w).alloc (.cells [.slice Ar0 t.roots.length cr0, .slice Ab0 t.brs.length cb0].toArray 25))
  by_cases hz : N = 0
  · subst hz
    rw [if_pos rfl]
    obtain rfl := HZ.out rfl
    obtain ⟨i0, hi, hz0, hz1, hz2⟩ := info_parts cinfoV
    unfold RetVL
    dsimp only
    go_enter Tryz.func32, Tryz.ntmps32
    go_wp2_with fail
    generalize w.alloc (.cells [.slice Ar0 t.roots.length cr0, .slice Ab0 t.brs.length cb0].toArray 25) = WA at GA ⊢
    refine (KA.out _ GA.out).mono ?_
    rintro e w1 ⟨Ar, nr, cr, Ab, nb, cb, Al, nl, cl, Av, nv, cv, rfl, g1, HAS, GOOD⟩
    obtain ⟨h, hH, hREST⟩ := HAS.out u
    have HH := Lib.hid hH
    have HREST := Lib.hid hREST
    have G1 := Lib.hid (g1.alloc (.cells #[.slice Ar nr cr, .slice Ab nb cb, .slice Al nl cl, .slice Av nv cv] 114))
    have HS := Lib.hid (show ∀ W, Grew (w1.alloc (.cells #[.slice Ar nr cr, .slice Ab nb cb, .slice Al nl cl, .slice Av nv cv] 114)) W → W.heap[w1.heap.size]? = some (.cells #[.slice Ar nr cr, .slice Ab nb cb, .slice Al nl cl, .slice Av nv cv] 114 (0, 0)) from fun W g => heap_keepI g (heap_newI w1 _))
    clear g1 hH hREST KA HAS
    dsimp only
    go_wp2_with fail
    refine (HH.out _ G1.out).mono ?_
    rintro e w2 ⟨rfl, g2⟩
    have G2 := Lib.hid g2
    clear g2 HH
    dsimp only
    go_wp2_with fail
    refine (KL.out _).mono ?_
    rintro e w4 ⟨rfl, g4⟩
    have G4 := Lib.hid (G2.out.trans g4)
    clear g4 G2
    dsimp only
    go_wp2_with fail
    refine (KO.out h HREST.out _).mono ?_
    rintro e w5 ⟨rfl, g5⟩
    have G5 := Lib.hid ((G4.out.alloc _).trans g5)
    clear g5 G4 KO HREST KL
    have G15 := Lib.hid (GA.out.trans (G1.out.trans G5.out))
    obtain ⟨hr', hv', hl', hvv'⟩ := GOOD.out (by first | rfl | trivial)
    have HK := Lib.hid (fun n W (hW : Grew WA W) => KF.out (by first | rfl | trivial) n (.slice Ar nr cr) (.slice Ab nb cb) (.slice Al nl cl) (.slice Av nv cv) W (hv'.mono hW) (hl'.mono hW) (hvv'.mono hW))
    have GW5 := Lib.hid (G1.out.trans G5.out)
    clear hr' hv' hl' hvv' GOOD KF HZ
    dsimp only
    go_wp2_with fail
    go_loopg [14, 15] 8 (fun gg s14 s15 wr => ∃ k : Nat, k ≤ 8 ∧ 8 - k ≤ gg ∧ s15 = .int .i64 ((k : Int) + 1) ∧ Aside (wr.ownsRow w5.heap.size 29 4 s14 (effsF EF k).length ((effsF EF k).flatMap Val.cells)) ∧ Aside (Grew w5 wr))
    case atStart => exact ⟨0, by omega, by omega, by simp, (show Aside _ from World.ownsRow_nil _ _ _ _), (show Aside _ from Grew.refl _)⟩
    case round =>
      obtain ⟨k, hk, hgk, rfl, OW, GW⟩ := hrel
      by_cases hlt : k < 8
      · have hltz : (k : Int) + 1 ≤ 8 := by omega
        have HG := Lib.hid (G15.out.trans GW.out)
        obtain ⟨⟨x0, x1, x2, x3⟩, -⟩ := four_cells (HS.out _ (G5.out.trans GW.out))
        have hlen := effsF_len EF k
        have kf := HK.out ((k : Int) + 1) wr (GW5.out.trans GW.out)
        unfold RetV at kf
        cases hq : EF ((k : Int) + 1) with
        | some x =>
          have HN := Lib.hid (effsF_some hq)
          rw [hq] at kf
          obtain ⟨xu, xe, xl, xt⟩ := x
          unfold Val.agg at kf
          dsimp only [Option.getD_some, Option.isSome_some] at kf
          have KFX := Lib.hid kf
          clear kf hq
          go_wp2_with fail
          refine KFX.out.mono ?_
          rintro e w6 ⟨rfl, g6⟩
          have gz := g6.alloc (.cells #[.int .i64 xu, .int .i64 xe, .string xl, .string xt] 29)
          have G6 := Lib.hid (GW.out.trans gz)
          have OW6 := Lib.hid (own_keep OW.out gz)
          clear x0 x1 x2 x3 g6 gz KFX
          dsimp only
          go_wp2_with (at_builtin; refine appR rfl _ _ 27 rfl w5 29 i0 (.agg #[.int .i64 0, .int .i64 0, .string ⟨#[]⟩, .string ⟨#[]⟩]) 4 48 Tryz.underlying27 hi hz0 hz1 hz2 rfl (by omega) _ _ _ (by rfl) _ (own_keep OW6.out ((Grew.refl _).alloc _)) (G6.out.alloc _) _ 1 [.int .i64 xu, .int .i64 xe, .string xl, .string xt] (by rfl) (rd_lit _ rfl _ (by simp)) rfl (by simp [Value.oneCell']) (by unfold maxLen; omega) (by omega) ?_; intro v8 w8 hown8 hg8 _)
          have OW8 : Aside _ := hown8
          have G8 : Aside _ := hg8
          clear hown8 hg8
          go_wp2
          go_roundg (8 - (k + 1))
          case measure => omega
          case rel =>
            refine ⟨k + 1, by omega, by omega, by go_num, (show Aside _ from ?_), (show Aside _ from ?_)⟩
            · rw [HN.out, List.flatMap_append, List.length_append]
              exact OW8.out
            · exact G8.out
        | none =>
          have HN := Lib.hid (effsF_none hq)
          rw [hq] at kf
          unfold Val.agg val0 at kf
          dsimp only [Option.getD_none, Option.isSome_none] at kf
          have KFX := Lib.hid kf
          clear kf hq
          go_wp2_with fail
          refine KFX.out.mono ?_
          rintro e w6 ⟨rfl, g6⟩
          have gz := g6.alloc (.cells #[.int .i64 0, .int .i64 0, .string ⟨#[]⟩, .string ⟨#[]⟩] 29)
          have G6 := Lib.hid (GW.out.trans gz)
          have OW6 := Lib.hid (own_keep OW.out gz)
          clear x0 x1 x2 x3 g6 gz KFX
          dsimp only
          go_wp2
          go_roundg (8 - (k + 1))
          case measure => omega
          case rel => exact ⟨k + 1, by omega, by omega, by go_num, (show Aside _ by rw [HN.out]; exact OW6.out), (show Aside _ from G6.out)⟩
      · have hltz : ¬ (k : Int) + 1 ≤ 8 := by omega
        obtain rfl : k = 8 := by omega
        have HG := Lib.hid (G15.out.trans GW.out)
        go_wp2
        go_ret2
        exact ⟨_, rfl, own_base OW.out G15.out.size, HG.out⟩
  · rw [if_neg hz]
    have hb : (N != 0) = true := by simpa using hz
    clear KF hz HZ
    unfold RetVL
    go_enter Tryz.func32, Tryz.ntmps32
    go_wp2_with fail
    generalize w.alloc (.cells [.slice Ar0 t.roots.length cr0, .slice Ab0 t.brs.length cb0].toArray 25) = WA at GA ⊢
    refine (KA.out _ GA.out).mono ?_
    rintro e w1 ⟨Ar, nr, cr, Ab, nb, cb, Al, nl, cl, Av, nv, cv, rfl, g1, HAS, GOOD⟩
    obtain ⟨h, hH, hREST⟩ := HAS.out u
    have HH := Lib.hid hH
    have HREST := Lib.hid hREST
    have G1 := Lib.hid (g1.alloc (.cells #[.slice Ar nr cr, .slice Ab nb cb, .slice Al nl cl, .slice Av nv cv] 114))
    clear g1 hH hREST KA HAS GOOD
    dsimp only
    go_wp2_with fail
    refine (HH.out _ G1.out).mono ?_
    rintro e w2 ⟨rfl, g2⟩
    have G2 := Lib.hid g2
    clear g2 HH
    dsimp only
    go_wp2_with fail
    refine (KL.out _).mono ?_
    rintro e w4 ⟨rfl, g4⟩
    have G4 := Lib.hid (G2.out.trans g4)
    clear g4 G2
    dsimp only
    go_wp2_with fail
    refine (KO.out h HREST.out _).mono ?_
    rintro e w5 ⟨rfl, g5⟩
    have G5 := Lib.hid (GA.out.trans (G1.out.trans ((G4.out.alloc _).trans g5)))
    clear g5 G4 KO HREST KL
    dsimp only
    go_wp2_with fail
    go_ret2
    exact ⟨_, rfl, World.ownsRow_nil _ _ _ _, G5.out⟩
end Go.Proofs.YtjaknioojpgkiaaGreatDoor
