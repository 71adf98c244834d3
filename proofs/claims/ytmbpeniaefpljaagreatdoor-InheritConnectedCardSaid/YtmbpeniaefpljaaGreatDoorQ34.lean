/- Lemmas on what the functions of the program and of the library compute: IG. The conditions stand at each. -/
import Derived.Test.YtmbpeniaefpljaaGreatDoorQ33
/- inherit.Gaps, walked. The conditions: the library's own variables hold what they must; the lists are short. -/
namespace Go.Proofs.YtmbpeniaefpljaaGreatDoor
open Go.RowKit

theorem first_num (t : Tr) (ls : List ByteArray) (vs : List Val) (n : Int) (W : World) :
    Calls Tryz.prog 44 #[.slice (some ⟨W.heap.size, 0, none⟩) 2 2] (W.alloc (.cells #[.int .i64 (ofI t ls vs), .int .i64 (numI n)] 32)) fun e w' => e = .returned (.int .i64 (orF [ofI t ls vs, numI n])) ∧ Grew (W.alloc (.cells #[.int .i64 (ofI t ls vs), .int .i64 (numI n)] 32)) w' :=
  iFirst [ofI t ls vs, numI n] _ _ (err_lit W [ofI t ls vs, numI n] 2 rfl (by decide))
theorem gaps_ask {t : Tr} {ls : List ByteArray} {vs : List Val} {n : Int} : gapsR t ls vs n = if orF [ofI t ls vs, numI n] = 0 then (gapsF t ls vs n (ls.headD ⟨#[]⟩), 0) else ([], orF [ofI t ls vs, numI n]) := by
  unfold gapsR
  have h01 : ofI t ls vs = 0 ∨ ofI t ls vs = 1 := by
    unfold ofI
    split
    · exact .inl rfl
    · exact .inr rfl
  have h02 : numI n = 0 ∨ numI n = 2 := by
    unfold numI
    split
    · exact .inl rfl
    · exact .inr rfl
  rcases h01 with h | h <;> rcases h02 with k | k <;> simp [orF, h, k]
theorem langs_ne {ls : List ByteArray} {vs : List Val} (h : RightV ls vs) : 0 < ls.length := by
  have h1 := h.1
  unfold langsF at h1
  split at h1
  · cases h1
  · omega
/-- The boxes of Gaps ahead of its calls. -/
def gapsBox (w : World) (rv bv lv : Value) (n : Int) : World := ((w.alloc (.cells #[rv, bv] 25)).alloc (.cells #[lv] 26)).alloc (.cells #[.int .i64 n] 3)
theorem gapsBox_is (w : World) (rv bv lv : Value) (n : Int) : Grew w (gapsBox w rv bv lv n) ∧ ∀ W, Grew (gapsBox w rv bv lv n) W → W.heap[w.heap.size + 1]? = some (.cells #[lv] 26 (0, 0)) ∧ W.heap[w.heap.size + 2]? = some (.cells #[.int .i64 n] 3 (0, 0)) := by
  unfold gapsBox
  generalize hA : w.alloc (.cells #[rv, bv] 25) = A
  have sA : A.heap.size = w.heap.size + 1 := by rw [← hA, World.size_alloc]
  have gA : Grew w A := by rw [← hA]; exact (Grew.refl w).alloc _
  have e1 := heap_newI A (.cells #[lv] 26)
  generalize hB : A.alloc (.cells #[lv] 26) = B at e1 ⊢
  have sB : B.heap.size = w.heap.size + 2 := by rw [← hB, World.size_alloc, sA]
  have gB : Grew A B := by rw [← hB]; exact (Grew.refl A).alloc _
  have e2 := heap_newI B (.cells #[.int .i64 n] 3)
  have gC := (Grew.refl B).alloc (.cells #[.int .i64 n] 3)
  rw [sA] at e1
  rw [sB] at e2
  exact ⟨(gA.trans gB).trans gC, fun W g => ⟨heap_keepI (gC.trans g) e1, heap_keepI g e2⟩⟩
theorem orF_two {a b : Int} (h : orF [a, b] = 0) : a = 0 ∧ b = 0 := by
  unfold orF at h
  split at h
  · rename_i ha
    refine ⟨ha, ?_⟩
    unfold orF at h
    split at h
    · assumption
    · exact h
  · exact absurd h (by assumption)
set_option maxHeartbeats 8000000 in
set_option maxRecDepth 100000 in
theorem iGapsX (t : Tr) (ls : List ByteArray) (vs : List Val) (n : Int) (rv bv lv vv : Value) (w : World) (hE : Env w) (hr : SlI w rv t.roots) (hv : SlBr w bv t.brs) (hf : FewBr t.brs) (hrl : t.roots.length ≤ 1000000) (hl : SlS w lv ls) (hvv : SlV w vv vs) :
    Calls Tryz.prog 26 #[.agg #[rv, bv], lv, vv, .int .i64 n] w (RetNL (gapsR t ls vs n) w) := by
  have kA := fun W (hW : Grew w W) => iOfAsk t ls vs rv bv lv vv W (hE.mono hW) (hr.mono hW) (hv.mono hW) hf hrl (hl.mono hW) (hvv.mono hW)
  have KF := Lib.hid (fun (h : ofI t ls vs = 0) x (hx : x ∈ belowT t 0) rv' bv' lv' vv' W (hv' : SlBr W bv' t.brs) (hl' : SlS W lv' ls) (hvv' : SlV W vv' vs) => iEff t ls vs x n (ls.headD ⟨#[]⟩) rv' bv' lv' vv' W hl' (fun W2 lg hW2 => iFound t vs x n lg rv' bv' lv' vv' W2 (ofI_zero.1 h).1 (hv'.mono hW2) (hvv'.mono hW2) (.inr (below_there (ofI_zero.1 h).1 hx))))
  have KB := Lib.hid (fun (h : ofI t ls vs = 0) rv' bv' lv' vv' W (hE' : Env W) (hr' : SlI W rv' t.roots) (hv' : SlBr W bv' t.brs) => iOrder t rv' bv' lv' vv' W hE' hr' hv' hf hrl (ofI_zero.1 h).1 (Nat.le_trans (below_len (right_sound (ofI_zero.1 h).1) 0 (.inl rfl)) hf.1))
  have HZ := Lib.hid (fun h : orF [ofI t ls vs, numI n] = 0 => (orF_two h).1)
  have HNE := Lib.hid (fun h : ofI t ls vs = 0 => langs_ne (ofI_zero.1 h).2)
  have HE := Lib.hid hE
  have KO := Lib.hid (first_num t ls vs n)
  have KN := Lib.hid (fun W => iNumber n W)
  rw [gaps_ask]
  unfold gapsF
  unfold RetOA at kA
  generalize orF [ofI t ls vs, numI n] = N at HZ KO ⊢
  generalize belowT t 0 = L at KF KB ⊢
  generalize ofI t ls vs = N0 at kA KO HZ KF KB HNE
  generalize numI n = NN at KN KO
  have KA := Lib.hid kA
  obtain ⟨Ar0, cr0, rfl, -⟩ := hr.open_
  obtain ⟨Ab0, cb0, rfl, -⟩ := hv.open_
  obtain ⟨Al0, cl0, rfl, hlc, hc, hcr⟩ := hl.open_
  have HR := Lib.hid hcr
  clear kA hE hr hv hf hrl hl hvv hcr hlc hc
  obtain ⟨ga, hb⟩ := gapsBox_is w (.slice Ar0 t.roots.length cr0) (.slice Ab0 t.brs.length cb0) (.slice Al0 ls.length cl0) n
  have GA := Lib.hid ga
  have HB := Lib.hid hb
  clear ga hb
  unfold gapsBox at GA HB
  generalize hl0 : ls.headD ⟨#[]⟩ = l0 at KF ⊢
  have HLD := Lib.hid hl0
  clear hl0
  generalize hRES : (if N = 0 then (L.filter (fun u => (effF t.brs ls vs u n l0).isNone), (0 : Int)) else ([], N)) = RES
  have HRES := Lib.hid hRES
  clear hRES
  unfold RetNL
  go_enter Tryz.func26, Tryz.ntmps26
  go_wp2_with fail
  generalize (((w.alloc (.cells #[.slice Ar0 t.roots.length cr0, .slice Ab0 t.brs.length cb0] 25)).alloc (.cells #[.slice Al0 ls.length cl0] 26)).alloc (.cells #[.int .i64 n] 3)) = WA at GA HB ⊢
  refine (KA.out _ GA.out).mono ?_
  rintro e w1 ⟨Ar, nr, cr, Ab, nb, cb, Al, nl, cl, Av, nv, cv, rfl, g1, HAS, GOOD⟩
  have gz := g1.alloc (.cells #[.slice Ar nr cr, .slice Ab nb cb, .slice Al nl cl, .slice Av nv cv] 68)
  have G1 := Lib.hid gz
  have HS := Lib.hid (show ∀ W, Grew (w1.alloc (.cells #[.slice Ar nr cr, .slice Ab nb cb, .slice Al nl cl, .slice Av nv cv] 68)) W → W.heap[w1.heap.size]? = some (.cells #[.slice Ar nr cr, .slice Ab nb cb, .slice Al nl cl, .slice Av nv cv] 68 (0, 0)) from fun W g => heap_keepI g (heap_newI w1 _))
  have hs1 : w1.heap.size < (w1.alloc (.cells #[.slice Ar nr cr, .slice Ab nb cb, .slice Al nl cl, .slice Av nv cv] 68)).heap.size := by simp
  obtain ⟨b1, b2⟩ := HB.out _ gz
  have y1 := (one_cell b2).1
  have HSZ := Lib.hid (And.intro hs1 (Array.getElem?_eq_some_iff.1 b2).1)
  clear g1 KA HAS b1 b2 gz hs1
  dsimp only
  go_wp2_with fail
  refine (KN.out _).mono ?_
  rintro e w2 ⟨rfl, g2⟩
  have G2 := Lib.hid g2
  clear g2 KN y1
  dsimp only
  go_wp2_with fail
  refine (KO.out _).mono ?_
  rintro e w3 ⟨rfl, g3⟩
  have GC := Lib.hid ((G2.out.alloc _).trans g3)
  clear g3 KO G2
  have G3 := Lib.hid (G1.out.trans GC.out)
  have HG3 := Lib.hid (GA.out.trans G3.out)
  dsimp only
  by_cases hz : N = 0
  · subst hz
    have hres := HRES.out
    rw [if_pos rfl] at hres
    subst hres
    obtain rfl := HZ.out (by first | rfl | trivial)
    obtain ⟨⟨x0, x1, x2, x3⟩, -⟩ := four_cells (HS.out _ GC.out)
    obtain ⟨hr', hv', hl', hvv'⟩ := GOOD.out (by first | rfl | trivial)
    have HKB := Lib.hid (KB.out (by first | rfl | trivial) (.slice Ar nr cr) (.slice Ab nb cb) (.slice Al nl cl) (.slice Av nv cv) w3 (HE.out.mono HG3.out) (hr'.mono G3.out) (hv'.mono G3.out))
    have HKF := Lib.hid (fun x hx W (hW : Grew WA W) => KF.out (by first | rfl | trivial) x hx (.slice Ar nr cr) (.slice Ab nb cb) (.slice Al nl cl) (.slice Av nv cv) W (hv'.mono hW) (hl'.mono hW) (hvv'.mono hW))
    have HBC := Lib.hid (fun W (hW : Grew WA W) => HB.out W hW)
    have hne : 0 < ls.length := HNE.out (by first | rfl | trivial)
    obtain ⟨bb, off, rfl, hbb, hcell⟩ := HR.out hne
    have HL0 := Lib.hid (show ∀ W, Grew w W → W.cell? ⟨bb, off, none⟩ = some (.string l0) from fun W g => by
      have := hcell W g 0 hne
      rw [← HLD.out]
      cases ls with
      | nil => cases hne
      | cons a r => simpa using this)
    have HBB := Lib.hid hbb
    clear hr' hv' hl' hvv' GOOD KB KF HB hcell HNE HR hbb
    generalize ls.length = lsn at hne HBC ⊢
    go_wp2_with fail
    refine HKB.out.mono ?_
    rintro e w5 ⟨v5, rfl, hown, g5⟩
    have G5 := Lib.hid (GC.out.trans g5)
    have HOWN := Lib.hid hown
    have HDEL := Lib.hid (deleteFuncG L (fun x => (effF t.brs ls vs x n l0).isSome) 60 #[.pointer (some ⟨w1.heap.size, 0, none⟩), .pointer (some ⟨w.heap.size + 1 + 1, 0, none⟩), .pointer (some ⟨w.heap.size + 1, 0, none⟩)] enters_iGaps1 w3.heap.size v5 w5 g5.size hown (fun W x hW hx => by
      have hlow : ∀ r, v5.ownBlock = some r → w3.heap.size ≤ r := fun r e => (HOWN.out.lt r e).1
      obtain ⟨c1, c2⟩ := HBC.out _ (G1.out.trans G5.out)
      have hsz := HSZ.out
      have h3s := GC.out.size
      have hgs := (GA.out.trans G1.out).size
      have hgw : Grew WA W := Below.grown (Grew.trans G1.out G5.out) hW (Grew.trans G1.out G5.out).size (fun k e => by have := hlow k e; have := G1.out.size; omega)
      exact iGaps1 (effF t.brs ls vs x n l0) x n l0 Ar Ab Al Av nr cr nb cb nl cl nv cv bb off lsn cl0 w1.heap.size (w.heap.size + 2) (w.heap.size + 1) W (heap_turn hW (HS.out _ G5.out) (fun r e => by have := hlow r e; omega)) (heap_turn hW c2 (fun r e => by have := hlow r e; omega)) (heap_turn hW c1 (fun r e => by have := hlow r e; omega)) hne (HL0.out W (GA.out.trans hgw)) (fun W' hW' => HKF.out x hx W' (hgw.trans hW'))))
    simp only [Option.not_isSome] at HDEL
    clear hown g5 x0 x1 x2 x3 HKB HKF
    dsimp only
    go_wp2_with fail
    refine HDEL.out.mono ?_
    rintro e w6 ⟨v6, rfl, hown6, -, hb6, -⟩
    have HO6 := Lib.hid (own_base hown6 HG3.out.size)
    have HG6 := Lib.hid (show Grew w w6 from Below.trans (Grew.trans (Grew.trans GA.out G1.out) G5.out) (hb6.mono HG3.out.size))
    clear hown6 hb6 HDEL
    dsimp only
    go_wp2
    go_ret2
    exact ⟨_, rfl, HO6.out, HG6.out⟩
  · have hb : (N != 0) = true := by simpa using hz
    have hres := HRES.out
    rw [if_neg hz] at hres
    subst hres
    clear hz HRES HZ GOOD KB KF HB
    go_wp2_with fail
    go_ret2
    exact ⟨_, rfl, World.ownsRow_nil _ _ _ _, HG3.out⟩
end Go.Proofs.YtmbpeniaefpljaaGreatDoor
