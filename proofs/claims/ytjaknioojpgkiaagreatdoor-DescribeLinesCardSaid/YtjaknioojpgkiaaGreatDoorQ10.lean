/- Lemmas on what the functions of the program and of the library compute: E5, E6, E7, PlainD, T11, PlainI, PlainBu, PlainJ, PlainI3. The conditions stand at each. -/
import Derived.Test.YtjaknioojpgkiaaGreatDoorQ8
import Derived.Test.YtjaknioojpgkiaaGreatDoorQ1
import Derived.Test.YtjaknioojpgkiaaGreatDoorProg
import Derived.Test.YtjaknioojpgkiaaGreatDoorQ7
import Derived.Test.YtjaknioojpgkiaaGreatDoorQ4
import Derived.Test.YtjaknioojpgkiaaGreatDoorQ9
/- How values are compared: cmp.Or, element.order and the reference's Less. No condition. -/
namespace Go.Proofs.YtjaknioojpgkiaaGreatDoor
open Go.RowKit

/-- How two values stand: by unit, element, language. -/
def orderV (a b : Val) : Int := orF [Lib.compareInt a.unit b.unit, Lib.compareInt a.elem b.elem, Lib.compareBytes a.lang.data.toList b.lang.data.toList]
set_option maxHeartbeats 1000000 in
set_option maxRecDepth 100000 in
theorem order_any (a b : Val) (w : World) : Calls Tryz.prog 190 #[a.agg, b.agg] w fun e w' => e = .returned (.int .i64 (orderV a b)) ∧ Grew w w' := by
  unfold Val.agg orderV
  have h1 := Tryz.cmp_Compare_int a.unit b.unit
  have h2 := Tryz.cmp_Compare_int a.elem b.elem
  have h3 := Tryz.strings_Compare a.lang b.lang
  generalize Lib.compareInt a.unit b.unit = x1 at h1 ⊢
  generalize Lib.compareInt a.elem b.elem = x2 at h2 ⊢
  generalize Lib.compareBytes a.lang.data.toList b.lang.data.toList = x3 at h3 ⊢
  have H1 := Lib.hid h1
  have H2 := Lib.hid h2
  have H3 := Lib.hid h3
  clear h1 h2 h3
  have hs : ∀ W : World, SlI (W.alloc (.cells #[.int .i64 x1, .int .i64 x2, .int .i64 x3] 3)).drew (.slice (some ⟨W.heap.size, 0, none⟩) 3 3) [x1, x2, x3] := fun W => Rd.mono (Rd.fresh W _ 1 3 [.int .i64 x1, .int .i64 x2, .int .i64 x3] rfl (by decide)) ((Grew.refl _).drew)
  have HS := Lib.hid hs
  clear hs
  go_enter Tryz.func190, Tryz.ntmps190
  go_wp2
  refine region_still_tail 15 (by kernel_rfl) (by kernel_rfl) ?_
  simp only [List.take_succ_cons, List.take_zero, List.drop_succ_cons, List.drop_zero]
  iterate 4 still_step
  refine wpStill_step (fun K hK => ?_)
  go_simp
  refine ⟨.int .i64 x1, H1.out _, hK _ ?_⟩
  clear hK K
  iterate 4 still_step
  refine wpStill_step (fun K hK => ?_)
  go_simp
  refine ⟨.int .i64 x2, H2.out _, hK _ ?_⟩
  clear hK K
  iterate 4 still_step
  refine wpStill_step (fun K hK => ?_)
  go_simp
  refine ⟨.int .i64 x3, H3.out _, hK _ ?_⟩
  clear hK K
  refine wpStill_nil ?_
  go_wp2_with fail
  refine (cmpOr_any [x1, x2, x3] _ _ ?_).mono ?_
  · have := HS.out ((w.alloc (.cells #[.int .i64 a.unit, .int .i64 a.elem, .string a.lang, .string a.text] 29)).alloc (.cells #[.int .i64 b.unit, .int .i64 b.elem, .string b.lang, .string b.text] 29))
    simpa using this
  rintro e w1 ⟨rfl, rfl⟩
  go_wp2
  go_ret
  exact ⟨rfl, ((((Grew.refl w).alloc _).alloc _).alloc _).drew⟩
end Go.Proofs.YtjaknioojpgkiaaGreatDoor

/- element.Check: the first fault of a list of values. No condition. -/
namespace Go.Proofs.YtjaknioojpgkiaaGreatDoor
open Go.RowKit

def inL (l : List ByteArray) (s : ByteArray) : Bool := l.any fun y => s.toList == y.toList
/-- The fault of a value behind another one. -/
def faultV (l : List ByteArray) (prev : Option Val) (v : Val) : Int :=
  if v.unit < 1 then 2 else if 1073741824 < v.unit then 2 else if isEl v.elem = false then 2 else if inL l v.lang = false then 10 else if isTextF v.text.data.toList = false then 3
  else match prev with
    | none => 0
    | some u => if 0 ≤ orderV u v then 5 else 0
def prevV (vs : List Val) (i : Nat) : Option Val := if i = 0 then none else vs[i - 1]?
def faultAt (l : List ByteArray) (vs : List Val) (i : Nat) : Int :=
  match vs[i]? with
  | none => 0
  | some v => faultV l (prevV vs i) v
def findFault (f : Nat → Int) : Nat → Nat → Int × Int
  | 0, _ => (-1, 0)
  | n + 1, i => if f i = 0 then findFault f n (i + 1) else ((i : Int), f i)
/-- The first fault. -/
def checkF (l : List ByteArray) (vs : List Val) : Int × Int :=
  if langsF l ≠ 0 then (-1, 1) else if 1024 < vs.length then (-1, 8) else findFault (faultAt l vs) vs.length 0
theorem findFault_go (f : Nat → Int) (n i k : Nat) (hk : k ≤ n) (h : ∀ j, i ≤ j → j < i + k → f j = 0) : findFault f n i = findFault f (n - k) (i + k) := by
  induction k generalizing n i with
  | zero => rfl
  | succ k ih =>
    obtain ⟨m, rfl⟩ : ∃ m, n = m + 1 := ⟨n - 1, by omega⟩
    rw [findFault, if_pos (h i (by omega) (by omega)), ih m (i + 1) (by omega) (fun j h1 h2 => h j (by omega) (by omega))]
    congr 1 <;> omega
theorem findFault_hit (f : Nat → Int) (n k : Nat) (hk : k < n) (h : ∀ j, j < k → f j = 0) (hf : f k ≠ 0) : findFault f n 0 = ((k : Int), f k) := by
  rw [findFault_go f n 0 k (by omega) (fun j _ h2 => h j (by omega))]
  obtain ⟨m, hm⟩ : ∃ m, n - k = m + 1 := ⟨n - k - 1, by omega⟩
  rw [hm, findFault, Nat.zero_add, if_neg hf]
theorem findFault_miss (f : Nat → Int) (n : Nat) (h : ∀ j, j < n → f j = 0) : findFault f n 0 = (-1, 0) := by
  rw [findFault_go f n 0 n (Nat.le_refl _) (fun j _ h2 => h j (by omega)), Nat.sub_self]
  rfl
theorem faultAt_in (l : List ByteArray) (vs : List Val) (i : Nat) (h : i < vs.length) : faultAt l vs i = faultV l (prevV vs i) vs[i] := by
  simp [faultAt, h]
theorem known_any (n : Int) (w : World) : Calls Tryz.prog 139 #[.int .i64 n] w fun e w' => e = .returned (.bool (isEl n)) ∧ w = w' := by
  cases h : isEl n
  · exact known_f n w h
  · exact known_t n w h

set_option maxRecDepth 100000 in
set_option maxHeartbeats 4000000 in
theorem check_any (l : List ByteArray) (vs : List Val) (lv vv : Value) (w : World) (hl : SlS w lv l) (hv : SlV w vv vs) :
    Calls Tryz.prog 132 #[lv, vv] w fun e w' => e = .returned (.tuple #[.int .i64 (checkF l vs).1, .int .i64 (checkF l vs).2]) ∧ Grew w w' := by
  have hla := languages_any l lv w hl
  have HL := Lib.hid hl
  obtain ⟨A, c, rfl, hlc, hc, hr⟩ := hv.open_
  unfold maxLen at hc
  have HR := Lib.hid hr
  clear hr hv hl
  by_cases h0 : langsF l = 0
  case neg =>
    have hC : checkF l vs = (-1, 1) := by simp [checkF, h0]
    rw [hC]
    have hne : (langsF l != 0) = true := by simpa using h0
    generalize langsF l = r at hla hne
    have HLA := Lib.hid hla
    clear hla h0 hC
    go_enter Tryz.func132, Tryz.ntmps132
    go_wp2_with (first | (go_at_call 189; refine HLA.out.mono ?_; rintro e w1 ⟨rfl, hg⟩))
    go_ret2
    exact ⟨rfl, hg⟩
  rw [h0] at hla
  have HLA := Lib.hid hla
  by_cases h1 : 1024 < vs.length
  · have hC : checkF l vs = (-1, 8) := by simp [checkF, h0, h1]
    rw [hC]
    have h1' : (1024 : Int) < (vs.length : Int) := by omega
    clear hla h0 hC
    go_enter Tryz.func132, Tryz.ntmps132
    go_wp2_with (first | (go_at_call 189; refine HLA.out.mono ?_; rintro e w1 ⟨rfl, hg⟩))
    go_ret2
    exact ⟨rfl, hg⟩
  have h1' : ¬ (1024 : Int) < (vs.length : Int) := by omega
  have hC : checkF l vs = findFault (faultAt l vs) vs.length 0 := by simp [checkF, h0, h1]
  rw [hC]
  generalize hF : findFault (faultAt l vs) vs.length 0 = R
  have HF := Lib.hid hF
  clear hla h0 hC hF h1
  go_enter Tryz.func132, Tryz.ntmps132
  go_wp2_with (first | (go_at_call 189; refine HLA.out.mono ?_; rintro e w1 ⟨rfl, hg⟩))
  go_loopg [6, 7, 18] vs.length (fun gg _ _ s18 wr => ∃ kk : Nat, kk ≤ vs.length ∧ vs.length - kk ≤ gg ∧ s18 = .int .i64 kk ∧ Aside (Grew w wr) ∧ Aside (∀ i, i < kk → faultAt l vs i = 0))
  case atStart => exact ⟨0, Nat.zero_le _, by omega, rfl, hg, fun i h => absurd h (Nat.not_lt_zero _)⟩
  case round =>
    obtain ⟨kk, hkk, hgk, rfl, BW, M⟩ := hrel
    by_cases hlt : kk < vs.length
    case neg =>
      have hltz : ¬ (kk : Int) < (vs.length : Int) := by omega
      have Hm := Lib.hid (HF.out.symm.trans (findFault_miss _ _ (fun j hj => M.out j (by omega))))
      go_wp2
      go_ret2
      refine ⟨?_, BW.out⟩
      rw [Hm.out]
      rfl
    have hltz : (kk : Int) < (vs.length : Int) := by omega
    obtain ⟨b, off, rfl, hb, hcell⟩ := HR.out (by omega)
    have HCELL := Lib.hid hcell
    obtain ⟨c0, c1, c2, c3⟩ := hcell wr BW.out kk hlt
    have hfa := faultAt_in l vs kk hlt
    have hit : faultAt l vs kk ≠ 0 → R = ((kk : Int), faultAt l vs kk) := fun h => HF.out.symm.trans (findFault_hit _ _ kk hlt M.out h)
    rw [hfa] at hit
    have HFA := Lib.hid hfa
    clear hcell hfa
    generalize hy : vs[kk] = y at c0 c1 c2 c3 hit HFA
    clear hy
    obtain ⟨yu, ye, yl, yt⟩ := y
    dsimp only at c0 c1 c2 c3
    have hkn := Lib.hid (known_any ye)
    have hct := Lib.hid (fun W (hW : Grew w W) => containsS l yl lv W (HL.out.mono hW))
    have htx := Lib.hid (isText_any yt)
    by_cases a1 : yu < 1
    · have hf : faultV l (prevV vs kk) ⟨yu, ye, yl, yt⟩ = 2 := by simp [faultV, a1]
      have Hr := Lib.hid (hit (by rw [hf]; decide))
      have Hf := Lib.hid hf
      clear hit hf hkn hct htx
      go_wp2
      go_ret2
      refine ⟨?_, BW.out.alloc _⟩
      rw [Hr.out, Hf.out]
      rfl
    by_cases a2 : 1073741824 < yu
    · have hf : faultV l (prevV vs kk) ⟨yu, ye, yl, yt⟩ = 2 := by simp [faultV, a1, a2]
      have Hr := Lib.hid (hit (by rw [hf]; decide))
      have Hf := Lib.hid hf
      clear hit hf
      go_wp2
      go_ret2
      refine ⟨?_, BW.out.alloc _⟩
      rw [Hr.out, Hf.out]
      rfl
    by_cases a3 : isEl ye = false
    · have hf : faultV l (prevV vs kk) ⟨yu, ye, yl, yt⟩ = 2 := by simp [faultV, a1, a2, a3]
      have Hk := Lib.hid a3
      clear a3
      have Hr := Lib.hid (hit (by rw [hf]; decide))
      have Hf := Lib.hid hf
      clear hit hf
      go_wp2_with (first | (go_at_call 139; refine (known_f _ _ Hk.out).mono ?_; rintro e w2 ⟨rfl, rfl⟩))
      go_ret2
      refine ⟨?_, BW.out.alloc _⟩
      rw [Hr.out, Hf.out]
      rfl
    have a3' : isEl ye = true := by simpa using a3
    have Hk := Lib.hid a3'
    have Ha3 := Lib.hid a3
    clear a3 a3'
    by_cases a4 : inL l yl = false
    · have hf : faultV l (prevV vs kk) ⟨yu, ye, yl, yt⟩ = 10 := by simp [faultV, a1, a2, Ha3.out, a4]
      have HCT : RowKit.Hid (∀ W, Grew w W → Calls Tryz.prog 111 #[lv, .string yl] W fun e w' => e = .returned (.bool false) ∧ W = w') := fun W hW => by
        have h := containsS l yl lv W (HL.out.mono hW)
        rw [show (l.any fun y => yl.toList == y.toList) = false from a4] at h
        exact h
      clear a4
      have Hr := Lib.hid (hit (by rw [hf]; decide))
      have Hf := Lib.hid hf
      clear hit hf
      go_wp2_with (first | (go_at_call 139; refine (known_t _ _ Hk.out).mono ?_; rintro e w2 ⟨rfl, rfl⟩) | (go_at_call 111; refine (HCT.out _ (BW.out.alloc _)).mono ?_; rintro e w3 ⟨rfl, rfl⟩))
      go_ret2
      refine ⟨?_, BW.out.alloc _⟩
      rw [Hr.out, Hf.out]
      rfl
    have HCT : RowKit.Hid (∀ W, Grew w W → Calls Tryz.prog 111 #[lv, .string yl] W fun e w' => e = .returned (.bool true) ∧ W = w') := fun W hW => by
      have h := containsS l yl lv W (HL.out.mono hW)
      rw [show (l.any fun y => yl.toList == y.toList) = true by simpa [inL] using a4] at h
      exact h
    have Ha4 := Lib.hid a4
    clear a4
    by_cases a5 : isTextF yt.data.toList = false
    · have hf : faultV l (prevV vs kk) ⟨yu, ye, yl, yt⟩ = 3 := by simp [faultV, a1, a2, Ha3.out, Ha4.out, a5]
      have HTX : RowKit.Hid (∀ W, Calls Tryz.prog 112 #[.string yt] W fun e w' => e = .returned (.bool false) ∧ Grew W w') := fun W => by
        have h := isText_any yt W
        rw [a5] at h
        exact h
      clear a5
      have Hr := Lib.hid (hit (by rw [hf]; decide))
      have Hf := Lib.hid hf
      clear hit hf
      go_wp2_with (first | (go_at_call 139; refine (known_t _ _ Hk.out).mono ?_; rintro e w2 ⟨rfl, rfl⟩) | (go_at_call 111; refine (HCT.out _ (BW.out.alloc _)).mono ?_; rintro e w3 ⟨rfl, rfl⟩) | (go_at_call 112; refine (HTX.out _).mono ?_; rintro e w4 ⟨rfl, hg4⟩))
      go_ret2
      refine ⟨?_, (BW.out.alloc _).trans hg4⟩
      rw [Hr.out, Hf.out]
      rfl
    have HTX : RowKit.Hid (∀ W, Calls Tryz.prog 112 #[.string yt] W fun e w' => e = .returned (.bool true) ∧ Grew W w') := fun W => by
      have h := isText_any yt W
      rw [show isTextF yt.data.toList = true by simpa using a5] at h
      exact h
    have Ha5 := Lib.hid a5
    clear a5
    rcases Nat.eq_zero_or_pos kk with hk0 | hkpos
    · subst hk0
      simp only [Nat.zero_mul, Nat.add_zero] at c0 c1 c2 c3
      have hf : faultAt l vs 0 = 0 := by rw [HFA.out]; simp [faultV, a1, a2, Ha3.out, Ha4.out, Ha5.out, prevV]
      have Hf := Lib.hid hf
      clear hit hf
      go_wp2_with (first | (go_at_call 139; refine (known_t _ _ Hk.out).mono ?_; rintro e w2 ⟨rfl, rfl⟩) | (go_at_call 111; refine (HCT.out _ (BW.out.alloc _)).mono ?_; rintro e w3 ⟨rfl, rfl⟩) | (go_at_call 112; refine (HTX.out _).mono ?_; rintro e w4 ⟨rfl, hg4⟩))
      go_quiet (fail)
      go_wp2
      go_roundg (vs.length - 1)
      case measure => omega
      case rel =>
        refine ⟨1, by omega, by omega, by go_num, (show Aside _ from ((BW.out.alloc _).trans hg4).drewN _), (show Aside _ from fun i hi => ?_)⟩
        obtain rfl : i = 0 := by omega
        exact Hf.out
    · have hp1 : kk - 1 < vs.length := by omega
      have hpv : prevV vs kk = some vs[kk - 1] := by rw [prevV, if_neg (by omega), List.getElem?_eq_getElem hp1]
      have hor := order_any vs[kk - 1] ⟨yu, ye, yl, yt⟩
      rw [hpv] at hit HFA
      have hkz : (0 : Int) < (kk : Int) := by omega
      have hki : (0 : Int) ≤ (kk : Int) - 1 := by omega
      have hki2 : (kk : Int) - 1 < (vs.length : Int) := by omega
      have hki3 : (1 : Int) ≤ (kk : Int) := by omega
      have hkt : ((kk : Int) - 1).toNat = kk - 1 := by omega
      have hzz : ∃ z, RowKit.Hid (vs[kk - 1] = z) := ⟨_, rfl⟩
      obtain ⟨⟨zu, ze, zl, zt⟩, hzz⟩ := hzz
      rw [hzz.out] at hor hit HFA
      clear hpv
      unfold Val.agg at hor
      dsimp only at hor
      by_cases a6 : 0 ≤ orderV ⟨zu, ze, zl, zt⟩ ⟨yu, ye, yl, yt⟩
      · have hf : faultV l (some ⟨zu, ze, zl, zt⟩) ⟨yu, ye, yl, yt⟩ = 5 := by simp [faultV, a1, a2, Ha3.out, Ha4.out, Ha5.out, a6]
        have Hr := Lib.hid (hit (by rw [hf]; decide))
        have Hf := Lib.hid hf
        generalize orderV ⟨zu, ze, zl, zt⟩ ⟨yu, ye, yl, yt⟩ = oo at hor a6
        have HOR := Lib.hid hor
        clear hit hf hor
        go_wp2_with (first | (go_at_call 139; refine (known_t _ _ Hk.out).mono ?_; rintro e w2 ⟨rfl, rfl⟩) | (go_at_call 111; refine (HCT.out _ (BW.out.alloc _)).mono ?_; rintro e w3 ⟨rfl, rfl⟩) | (go_at_call 112; refine (HTX.out _).mono ?_; rintro e w4 ⟨rfl, hg4⟩))
        have hgw : Grew w w4 := (BW.out.alloc _).trans hg4
        obtain ⟨d0, d1, d2, d3⟩ := HCELL.out w4 hgw (kk - 1) hp1
        rw [hzz.out] at d0 d1 d2 d3
        dsimp only at d0 d1 d2 d3
        have e0 : w4.cell? ⟨wr.heap.size, 0, none⟩ = some (.int .i64 yu) := (hg4.cell (p := ⟨wr.heap.size, 0, none⟩) (by simp)).trans (by simp)
        have e1 : w4.cell? ⟨wr.heap.size, 1, none⟩ = some (.int .i64 ye) := (hg4.cell (p := ⟨wr.heap.size, 1, none⟩) (by simp)).trans (by simp)
        have e2 : w4.cell? ⟨wr.heap.size, 2, none⟩ = some (.string yl) := (hg4.cell (p := ⟨wr.heap.size, 2, none⟩) (by simp)).trans (by simp)
        have e3 : w4.cell? ⟨wr.heap.size, 3, none⟩ = some (.string yt) := (hg4.cell (p := ⟨wr.heap.size, 3, none⟩) (by simp)).trans (by simp)
        clear HCELL HCT HTX
        have hwr : IntKind.i64.wrap ((kk : Int) - 1) = (kk : Int) - 1 := IntWalk.i64_in _ (by omega)
        refine region_still_tail 9 (by kernel_rfl) (by kernel_rfl) ?_
        simp only [List.take_succ_cons, List.take_zero, List.drop_succ_cons, List.drop_zero]
        iterate 9 still_step
        clear hwr
        refine wpStill_nil ?_
        go_wp2_with fail
        refine (HOR.out _).mono ?_
        rintro e w5 ⟨rfl, hg5⟩
        go_wp2
        go_ret2
        refine ⟨?_, hgw.drew.trans hg5⟩
        rw [Hr.out, Hf.out]
        rfl
      · have hf : faultAt l vs kk = 0 := by rw [HFA.out]; simp [faultV, a1, a2, Ha3.out, Ha4.out, Ha5.out, a6]
        have Hf := Lib.hid hf
        generalize orderV ⟨zu, ze, zl, zt⟩ ⟨yu, ye, yl, yt⟩ = oo at hor a6
        have HOR := Lib.hid hor
        clear hit hf hor
        go_wp2_with (first | (go_at_call 139; refine (known_t _ _ Hk.out).mono ?_; rintro e w2 ⟨rfl, rfl⟩) | (go_at_call 111; refine (HCT.out _ (BW.out.alloc _)).mono ?_; rintro e w3 ⟨rfl, rfl⟩) | (go_at_call 112; refine (HTX.out _).mono ?_; rintro e w4 ⟨rfl, hg4⟩))
        have hgw : Grew w w4 := (BW.out.alloc _).trans hg4
        obtain ⟨d0, d1, d2, d3⟩ := HCELL.out w4 hgw (kk - 1) hp1
        rw [hzz.out] at d0 d1 d2 d3
        dsimp only at d0 d1 d2 d3
        have e0 : w4.cell? ⟨wr.heap.size, 0, none⟩ = some (.int .i64 yu) := (hg4.cell (p := ⟨wr.heap.size, 0, none⟩) (by simp)).trans (by simp)
        have e1 : w4.cell? ⟨wr.heap.size, 1, none⟩ = some (.int .i64 ye) := (hg4.cell (p := ⟨wr.heap.size, 1, none⟩) (by simp)).trans (by simp)
        have e2 : w4.cell? ⟨wr.heap.size, 2, none⟩ = some (.string yl) := (hg4.cell (p := ⟨wr.heap.size, 2, none⟩) (by simp)).trans (by simp)
        have e3 : w4.cell? ⟨wr.heap.size, 3, none⟩ = some (.string yt) := (hg4.cell (p := ⟨wr.heap.size, 3, none⟩) (by simp)).trans (by simp)
        clear HCELL HCT HTX
        have hwr : IntKind.i64.wrap ((kk : Int) - 1) = (kk : Int) - 1 := IntWalk.i64_in _ (by omega)
        refine region_still_tail 9 (by kernel_rfl) (by kernel_rfl) ?_
        simp only [List.take_succ_cons, List.take_zero, List.drop_succ_cons, List.drop_zero]
        iterate 9 still_step
        clear hwr
        refine wpStill_nil ?_
        go_wp2_with fail
        refine (HOR.out _).mono ?_
        rintro e w5 ⟨rfl, hg5⟩
        go_wp2
        go_roundg (vs.length - (kk + 1))
        case measure => omega
        case rel =>
          refine ⟨kk + 1, by omega, by omega, by go_num, (show Aside _ from hgw.drew.trans hg5), (show Aside _ from fun i hi => ?_)⟩
          by_cases e : i = kk
          · subst e; exact Hf.out
          · exact M.out i (by omega)
end Go.Proofs.YtjaknioojpgkiaaGreatDoor

/- element.Get and element.Of: what they return. No condition but the sizes that a slice can have. -/
namespace Go.Proofs.YtjaknioojpgkiaaGreatDoor
open Go.RowKit

theorem own_base {W : World} {base base' : Nat} {e : TypeId} {size : Nat} {v : Value} {k : Nat} {xs : List Value} (h : W.ownsRow base e size v k xs) (hb : base' ≤ base) : W.ownsRow base' e size v k xs := by
  refine ⟨h.1, ?_⟩
  rcases h.2 with h1 | ⟨g, cap, cur, hv, hg, r⟩
  · exact .inl h1
  · exact .inr ⟨g, cap, cur, hv, by omega, r⟩
def getP (u n : Int) (lang : ByteArray) (x : Val) : Bool := x.unit == u && (x.elem == n && (x.lang.toList == lang.toList))
set_option maxHeartbeats 1000000 in
theorem get1_any (B : Nat) (u n : Int) (lang : ByteArray) (W : World) (x : Val) (hB : B + 2 < W.heap.size) (h0 : W.cell? ⟨B, 0, none⟩ = some (.int .i64 u)) (h1 : W.cell? ⟨B + 1, 0, none⟩ = some (.int .i64 n)) (h2 : W.cell? ⟨B + 2, 0, none⟩ = some (.string lang)) :
    Calls Tryz.prog 88 (#[x.agg] ++ #[.pointer (some ⟨B, 0, none⟩), .pointer (some ⟨B + 1, 0, none⟩), .pointer (some ⟨B + 2, 0, none⟩)]) W fun e w' => e = .returned (.bool (getP u n lang x)) ∧ Grew W w' := by
  obtain ⟨xu, xe, xl, xt⟩ := x
  unfold Val.agg getP
  dsimp only
  have hB0 : B < W.heap.size := by omega
  have hB1 : B + 1 < W.heap.size := by omega
  cases e1 : (xu == u) with
  | false =>
    simp only [Bool.false_and]
    go_enter Tryz.func88, Tryz.ntmps88
    go_wp2
    go_ret
    exact ⟨rfl, (Grew.refl W).alloc _⟩
  | true =>
    cases e2 : (xe == n) with
    | false =>
      simp only [Bool.false_and, Bool.and_false]
      go_enter Tryz.func88, Tryz.ntmps88
      go_wp2
      go_ret
      exact ⟨rfl, (Grew.refl W).alloc _⟩
    | true =>
      simp only [Bool.true_and]
      go_enter Tryz.func88, Tryz.ntmps88
      go_wp2
      go_ret
      exact ⟨rfl, (Grew.refl W).alloc _⟩
theorem enters_get1 : ∀ args w, (callFunc 88 args).run Tryz.prog w = .ok (.enter 88 args) w := enters_of Tryz.func88 (by kernel_rfl) rfl

/-- The text of the first value of a unit, an element and a language. -/
def getF (vs : List Val) (u n : Int) (lang : ByteArray) : Option ByteArray := (vs.find? (getP u n lang)).map (·.text)
def optS (o : Option ByteArray) : ByteArray := o.getD ⟨#[]⟩
set_option maxHeartbeats 1000000 in
theorem get_any (vs : List Val) (u n : Int) (lang : ByteArray) (v : Value) (w : World) (hv : SlV w v vs) :
    Calls Tryz.prog 30 #[v, .int .i64 u, .int .i64 n, .string lang] w fun e w' => e = .returned (.tuple #[.string (optS (getF vs u n lang)), .bool (getF vs u n lang).isSome]) ∧ Grew w w' := by
  obtain ⟨A, c, rfl, hlc, hc, hr⟩ := hv.open_
  unfold maxLen at hc
  have hW : ∀ W, Grew (((w.alloc (.cells #[.int .i64 u] 3)).alloc (.cells #[.int .i64 n] 3)).alloc (.cells #[.string lang] 9)) W → w.heap.size + 2 < W.heap.size ∧ W.cell? ⟨w.heap.size, 0, none⟩ = some (.int .i64 u) ∧ W.cell? ⟨w.heap.size + 1, 0, none⟩ = some (.int .i64 n) ∧ W.cell? ⟨w.heap.size + 2, 0, none⟩ = some (.string lang) := fun W hW => by
    have h1 := hW.size
    simp at h1
    refine ⟨by omega, ?_, ?_, ?_⟩
    · exact (hW.cell (p := ⟨w.heap.size, 0, none⟩) (by simp; omega)).trans (by simp [go_sem])
    · exact (hW.cell (p := ⟨w.heap.size + 1, 0, none⟩) (by simp)).trans (by simp [go_sem])
    · exact (hW.cell (p := ⟨w.heap.size + 2, 0, none⟩) (by simp)).trans (by simp [go_sem])
  have hix := indexFuncV vs (getP u n lang) _ _ enters_get1 (.slice A vs.length c) _ (hv.mono ((((Grew.refl w).alloc (.cells #[.int .i64 u] 3)).alloc (.cells #[.int .i64 n] 3)).alloc (.cells #[.string lang] 9)))
    (fun W x h _ => get1_any w.heap.size u n lang W x (hW W h).1 (hW W h).2.1 (hW W h).2.2.1 (hW W h).2.2.2)
  have HR := Lib.hid hr
  clear hW hr hv
  by_cases hany : vs.any (getP u n lang) = true
  · obtain ⟨m, hm, hpm, hbef⟩ := idxP_find _ vs hany
    rw [idxP_hit _ vs m hm hpm hbef] at hix
    have hf : vs.find? (getP u n lang) = some vs[m] := List.find?_eq_some_iff_getElem.2 ⟨hpm, m, hm, rfl, fun j hj => by simpa using hbef j (by omega) hj⟩
    have hg : getF vs u n lang = some (vs[m]).text := by simp [getF, hf]
    rw [hg]
    have HX := Lib.hid hix
    obtain ⟨b, off, rfl, hb, hcell⟩ := HR.out (by omega)
    have HC := Lib.hid hcell
    have hneg : ¬ (m : Int) < 0 := by omega
    clear hix hany hbef hpm hf hg hcell
    go_enter Tryz.func30, Tryz.ntmps30
    go_wp2_with (first | (go_at_call 87; refine HX.out.mono ?_; rintro e w1 ⟨rfl, hg⟩; have hgw : Grew w w1 := (((Grew.refl w).alloc _).alloc _).alloc _ |>.trans hg; obtain ⟨_, _, _, c3⟩ := HC.out w1 hgw m hm))
    go_ret2
    exact ⟨rfl, hgw⟩
  · simp only [Bool.not_eq_true] at hany
    rw [idxP_miss _ vs (fun i hi => by rw [List.any_eq_false] at hany; simpa using hany vs[i] (List.getElem_mem hi))] at hix
    have hg : getF vs u n lang = none := by
      rw [List.any_eq_false] at hany
      simp only [getF, Option.map_eq_none_iff, List.find?_eq_none]
      exact fun x hx => hany x hx
    rw [hg]
    have HX := Lib.hid hix
    clear hix hany hg
    go_enter Tryz.func30, Tryz.ntmps30
    go_wp2_with (first | (go_at_call 87; refine HX.out.mono ?_; rintro e w1 ⟨rfl, hg⟩; have hgw : Grew w w1 := (((Grew.refl w).alloc _).alloc _).alloc _ |>.trans hg))
    go_ret2
    exact ⟨rfl, hgw⟩

end Go.Proofs.YtjaknioojpgkiaaGreatDoor

/- The plain law of right lists of values: what is right is in strict order, its parts are right, Get finds each, and it is made of its units. No condition. -/
namespace Go.Proofs.YtjaknioojpgkiaaGreatDoor
open Go.RowKit

theorem cb_three : ∀ a b : List UInt8, Lib.compareBytes a b = -1 ∨ Lib.compareBytes a b = 0 ∨ Lib.compareBytes a b = 1
  | [], [] => .inr (.inl rfl)
  | [], _ :: _ => .inl rfl
  | _ :: _, [] => .inr (.inr rfl)
  | a :: ra, b :: rb => by
    rw [Lib.compareBytes]
    split
    · exact .inl rfl
    · split
      · exact .inr (.inr rfl)
      · exact cb_three ra rb
theorem cb_eq : ∀ a b : List UInt8, Lib.compareBytes a b = 0 ↔ a = b
  | [], [] => by simp [Lib.compareBytes]
  | [], _ :: _ => by simp [Lib.compareBytes]
  | _ :: _, [] => by simp [Lib.compareBytes]
  | a :: ra, b :: rb => by
    rw [Lib.compareBytes]
    split
    · rename_i h
      simp only [List.cons.injEq]
      constructor
      · intro h; cases h
      · rintro ⟨rfl, _⟩
        exact absurd h (UInt8.lt_irrefl _)
    · rename_i h
      split
      · rename_i h2
        simp only [List.cons.injEq]
        constructor
        · intro h; cases h
        · rintro ⟨rfl, _⟩
          exact absurd h2 (UInt8.lt_irrefl _)
      · rename_i h2
        rw [cb_eq ra rb]
        have : a = b := UInt8.le_antisymm (UInt8.not_lt.1 h2) (UInt8.not_lt.1 h)
        simp [this]
theorem cb_trans : ∀ a b c : List UInt8, Lib.compareBytes a b = -1 → Lib.compareBytes b c = -1 → Lib.compareBytes a c = -1
  | [], [], _ => by intro h; cases h
  | [], _ :: _, [] => by intro _ h; cases h
  | [], _ :: _, _ :: _ => by intros; rfl
  | _ :: _, [], _ => by intro h; cases h
  | _ :: _, _ :: _, [] => by intro _ h; cases h
  | a :: ra, b :: rb, c :: cs => by
    simp only [Lib.compareBytes, UInt8.lt_iff_toNat_lt]
    intro h1 h2
    have ih := cb_trans ra rb cs
    by_cases p1 : a.toNat < b.toNat
    · by_cases q1 : b.toNat < c.toNat
      · rw [if_pos (by omega)]
      · rw [if_neg q1] at h2
        by_cases q2 : c.toNat < b.toNat
        · rw [if_pos q2] at h2; cases h2
        · rw [if_pos (by omega)]
    · rw [if_neg p1] at h1
      by_cases p2 : b.toNat < a.toNat
      · rw [if_pos p2] at h1; cases h1
      · rw [if_neg p2] at h1
        by_cases q1 : b.toNat < c.toNat
        · rw [if_pos (by omega)]
        · rw [if_neg q1] at h2
          by_cases q2 : c.toNat < b.toNat
          · rw [if_pos q2] at h2; cases h2
          · rw [if_neg q2] at h2
            rw [if_neg (by omega), if_neg (by omega)]
            exact ih h1 h2
def cbLt (a b : ByteArray) : Prop := Lib.compareBytes a.data.toList b.data.toList = -1
/-- One value stands before another. -/
def ltV (a b : Val) : Prop := a.unit < b.unit ∨ (a.unit = b.unit ∧ (a.elem < b.elem ∨ (a.elem = b.elem ∧ cbLt a.lang b.lang)))
theorem ltV_trans {a b c : Val} (h1 : ltV a b) (h2 : ltV b c) : ltV a c := by
  rcases h1 with h1 | ⟨h1, h1'⟩
  · rcases h2 with h2 | ⟨h2, _⟩
    · exact .inl (by omega)
    · exact .inl (by omega)
  · rcases h2 with h2 | ⟨h2, h2'⟩
    · exact .inl (by omega)
    · refine .inr ⟨by omega, ?_⟩
      rcases h1' with h1' | ⟨h1', k1⟩
      · rcases h2' with h2' | ⟨h2', _⟩
        · exact .inl (by omega)
        · exact .inl (by omega)
      · rcases h2' with h2' | ⟨h2', k2⟩
        · exact .inl (by omega)
        · exact .inr ⟨by omega, cb_trans _ _ _ k1 k2⟩
theorem ltV_key {a b : Val} (h : ltV a b) (h1 : a.unit = b.unit) (h2 : a.elem = b.elem) (h3 : a.lang = b.lang) : False := by
  rcases h with h | ⟨_, h | ⟨_, h⟩⟩
  · omega
  · omega
  · rw [cbLt, h3, (cb_eq _ _).2 rfl] at h
    cases h
theorem orderV_lt (a b : Val) : orderV a b < 0 ↔ ltV a b := by
  unfold orderV ltV cbLt
  have h3 := cb_three a.lang.data.toList b.lang.data.toList
  simp only [orF, Lib.compareInt]
  by_cases h1 : a.unit < b.unit
  · simp [h1]
  · by_cases h2 : a.unit > b.unit
    · have : ¬ a.unit = b.unit := by omega
      simp [h1, h2, this]
    · have e : a.unit = b.unit := by omega
      by_cases k1 : a.elem < b.elem
      · simp [e, k1]
      · by_cases k2 : a.elem > b.elem
        · have : ¬ a.elem = b.elem := by omega
          simp [e, k1, k2, this]
        · have e2 : a.elem = b.elem := by omega
          simp [e, e2]
          rcases h3 with h3 | h3 | h3 <;> simp [h3]
/-- A value that is right by itself. -/
def goodV (l : List ByteArray) (v : Val) : Prop := 1 ≤ v.unit ∧ v.unit ≤ 1073741824 ∧ isEl v.elem = true ∧ inL l v.lang = true ∧ isTextF v.text.data.toList = true
theorem faultV_ok (l : List ByteArray) (p : Option Val) (v : Val) : faultV l p v = 0 ↔ goodV l v ∧ ∀ u, p = some u → ltV u v := by
  unfold faultV goodV
  by_cases a1 : v.unit < 1
  · simp [a1]; intro h; omega
  by_cases a2 : 1073741824 < v.unit
  · simp [a1, a2]; intro _ h; omega
  have a1' : 1 ≤ v.unit := by omega
  have a2' : v.unit ≤ 1073741824 := by omega
  cases a3 : isEl v.elem
  · simp [a1, a2]
  cases a4 : inL l v.lang
  · simp [a1, a2]
  cases a5 : isTextF v.text.data.toList
  · simp [a1, a2]
  cases p with
  | none => simp [a1, a2, a1', a2']
  | some u =>
    have := orderV_lt u v
    by_cases h : 0 ≤ orderV u v
    · have hn : ¬ ltV u v := fun k => by have := this.2 k; omega
      simp [a1, a2, h, hn]
    · have hy : ltV u v := this.1 (by omega)
      simp [a1, a2, a1', a2', h, hy]
/-- A right list of values. -/
def RightV (l : List ByteArray) (vs : List Val) : Prop := langsF l = 0 ∧ vs.length ≤ 1024 ∧ (∀ v ∈ vs, goodV l v) ∧ vs.Pairwise ltV
theorem pairwise_adj {α : Type} {r : α → α → Prop} (tr : ∀ a b c, r a b → r b c → r a c) : ∀ (l : List α), (∀ (i : Nat) (h : i + 1 < l.length), r (l[i]'(by omega)) (l[i + 1]'h)) → l.Pairwise r
  | [], _ => List.Pairwise.nil
  | [_], _ => by simp
  | a :: b :: m, h => by
    have ih := pairwise_adj (r := r) tr (b :: m) (fun i hi => h (i + 1) (by simpa using hi))
    have hab : r a b := h 0 (by simp)
    refine List.Pairwise.cons ?_ ih
    intro x hx
    rcases List.mem_cons.1 hx with rfl | hx
    · exact hab
    · exact tr _ _ _ hab (List.rel_of_pairwise_cons ih hx)
theorem findFault_snd (f : Nat → Int) : ∀ n i, (findFault f n i).2 = 0 ↔ ∀ j, i ≤ j → j < i + n → f j = 0
  | 0, i => by
    refine ⟨fun _ j h1 h2 => by omega, fun _ => rfl⟩
  | n + 1, i => by
    rw [findFault]
    split
    · rename_i h
      rw [findFault_snd f n (i + 1)]
      constructor
      · intro h2 j h3 h4
        by_cases e : j = i
        · rw [e]; exact h
        · exact h2 j (by omega) (by omega)
      · intro h2 j h3 h4
        exact h2 j (by omega) (by omega)
    · rename_i h
      constructor
      · intro h2; exact absurd h2 h
      · intro h2; exact absurd (h2 i (by omega) (by omega)) h
theorem checkF_right (l : List ByteArray) (vs : List Val) : (checkF l vs).2 = 0 ↔ RightV l vs := by
  unfold checkF RightV
  by_cases h0 : langsF l = 0
  case neg => simp [h0]
  by_cases h1 : 1024 < vs.length
  · simp [h0, h1]; intro h; omega
  have h1' : vs.length ≤ 1024 := by omega
  simp only [h0, h1, h1', ne_eq, not_true_eq_false, if_false, true_and]
  rw [findFault_snd]
  constructor
  · intro h
    have hg : ∀ i (hi : i < vs.length), goodV l vs[i] ∧ ∀ u, prevV vs i = some u → ltV u vs[i] := fun i hi => by
      have := h i (by omega) (by omega)
      rw [faultAt_in l vs i hi, faultV_ok] at this
      exact this
    refine ⟨fun v hv => ?_, pairwise_adj (r := ltV) (fun _ _ _ => ltV_trans) vs (fun i hi => ?_)⟩
    · obtain ⟨i, hi, rfl⟩ := List.mem_iff_getElem.1 hv
      exact (hg i hi).1
    · exact (hg (i + 1) hi).2 _ (by rw [prevV, if_neg (by omega)]; simp)
  · rintro ⟨hg, hp⟩ j - hj
    have hj : j < vs.length := by omega
    rw [faultAt_in l vs j hj, faultV_ok]
    refine ⟨hg _ (List.getElem_mem hj), fun u hu => ?_⟩
    unfold prevV at hu
    split at hu
    · cases hu
    · rw [List.getElem?_eq_getElem (by omega)] at hu
      simp only [Option.some.injEq] at hu
      subst hu
      exact List.pairwise_iff_getElem.1 hp (j - 1) j (by omega) hj (by omega)
theorem RightV.part {l : List ByteArray} {vs us : List Val} (h : RightV l vs) (hs : us.Sublist vs) : RightV l us :=
  ⟨h.1, Nat.le_trans hs.length_le h.2.1, fun v hv => h.2.2.1 v (hs.subset hv), h.2.2.2.sublist hs⟩
theorem getP_self (v : Val) : getP v.unit v.elem v.lang v = true := by simp [getP]
theorem find_first {α : Type} (p : α → Bool) : ∀ (l : List α) (x : α), x ∈ l → p x = true → (∀ y ∈ l, p y = true → y = x) → l.find? p = some x
  | [], x, h, _, _ => by cases h
  | a :: r, x, h, hx, hu => by
    rw [List.find?_cons]
    cases ha : p a with
    | true => simp [hu a (by simp) ha]
    | false =>
      refine find_first p r x ?_ hx (fun y hy => hu y (List.mem_cons_of_mem _ hy))
      rcases List.mem_cons.1 h with rfl | h
      · rw [hx] at ha; cases ha
      · exact h
theorem pairwise_key {l : List Val} (h : l.Pairwise ltV) {x y : Val} (hx : x ∈ l) (hy : y ∈ l) (h1 : x.unit = y.unit) (h2 : x.elem = y.elem) (h3 : x.lang = y.lang) : x = y := by
  obtain ⟨i, hi, rfl⟩ := List.mem_iff_getElem.1 hx
  obtain ⟨j, hj, rfl⟩ := List.mem_iff_getElem.1 hy
  rcases Nat.lt_trichotomy i j with hij | hij | hij
  · exact (ltV_key (List.pairwise_iff_getElem.1 h i j hi hj hij) h1 h2 h3).elim
  · subst hij; rfl
  · exact (ltV_key (List.pairwise_iff_getElem.1 h j i hj hi hij) h1.symm h2.symm h3.symm).elim
theorem bytes_inj {x y : ByteArray} (h : x.toList = y.toList) : x = y := by
  rw [toList_dataE, toList_dataE] at h
  cases x; cases y
  simp only [ByteArray.mk.injEq]
  exact Array.toList_inj.1 h
theorem getF_each {l : List ByteArray} {vs : List Val} (h : RightV l vs) (v : Val) (hv : v ∈ vs) : getF vs v.unit v.elem v.lang = some v.text := by
  unfold getF
  rw [find_first _ vs v hv (getP_self v) (fun y hy hq => ?_)]
  · rfl
  · simp only [getP, Bool.and_eq_true, beq_iff_eq] at hq
    exact pairwise_key h.2.2.2 hy hv hq.1 hq.2.1 (bytes_inj hq.2.2)

end Go.Proofs.YtjaknioojpgkiaaGreatDoor

/- tree.path on a right tree, walked. The condition: the lists are short. -/
namespace Go.Proofs.YtjaknioojpgkiaaGreatDoor
open Go.RowKit

theorem find_mem {l : List Br} {id : Int} {b : Br} (h : brFind l id = some b) : b ∈ l ∧ b.id = id := by
  refine ⟨List.mem_of_find?_eq_some h, ?_⟩
  have := List.find?_some h
  simpa using this
/-- Where the way stands. -/
def Way (l : List Br) (rest : List Int) (z : Int) : Prop := (rest = [] ∧ z = 0) ∨ ∃ y n, y ∈ l ∧ z = y.id ∧ rest = upIds l n y ∧ (deep l n y).isSome = true
theorem Way.step {l : List Br} (hP : ∀ i (h : i < l.length), BrPlaced l l[i]) {y : Br} {n : Nat} (hy : y ∈ l) (hd : (deep l n y).isSome = true) : ∃ rest, upIds l n y = y.id :: rest ∧ Way l rest y.parent := by
  by_cases h0 : y.parent = 0
  · exact ⟨[], upIds_top l n y h0, .inl ⟨rfl, h0⟩⟩
  · cases n with
    | zero => rw [deep_cycle l y h0] at hd; cases hd
    | succ n =>
      obtain ⟨j, hj, rfl⟩ := List.mem_iff_getElem.1 hy
      have := hP j hj
      unfold BrPlaced at this
      rw [if_neg h0] at this
      obtain ⟨p, hp, _⟩ := this
      obtain ⟨hpm, hpi⟩ := find_mem hp
      refine ⟨upIds l n p, upIds_up l n _ p h0 hp, .inr ⟨p, n, hpm, hpi.symm, rfl, ?_⟩⟩
      rw [deep_up l n _ p h0 hp] at hd
      simpa using hd
end Go.Proofs.YtjaknioojpgkiaaGreatDoor

/- Inheritance of values, plainly: the way of a unit upwards, the value found on it, the effective one. No condition. -/
namespace Go.Proofs.YtjaknioojpgkiaaGreatDoor
open Go.RowKit

theorem up_stable {l : List Br} : ∀ (n m : Nat) (b : Br), (deep l n b).isSome = true → (deep l m b).isSome = true → upIds l n b = upIds l m b
  | n, m, b, h1, h2 => by
    by_cases h0 : b.parent = 0
    · rw [upIds_top l n b h0, upIds_top l m b h0]
    · cases n with
      | zero => rw [deep_cycle l b h0] at h1; cases h1
      | succ n =>
        cases m with
        | zero => rw [deep_cycle l b h0] at h2; cases h2
        | succ m =>
          cases hp : brFind l b.parent with
          | none =>
            unfold deep at h1
            rw [if_neg h0, hp] at h1
            cases h1
          | some p =>
            rw [upIds_up l n b p h0 hp, upIds_up l m b p h0 hp]
            rw [deep_up l n b p h0 hp] at h1
            rw [deep_up l m b p h0 hp] at h2
            rw [up_stable n m p (by simpa using h1) (by simpa using h2)]
/-- The units from one upwards to the top. -/
def wayL (l : List Br) (u : Int) : List Int := match brFind l u with
  | none => []
  | some b => upIds l l.length b
theorem wayL_none {l : List Br} {u : Int} (h : brFind l u = none) : wayL l u = [] := by
  unfold wayL
  rw [h]
theorem right_deep {t : Tr} (hT : RightT t) {b : Br} (hb : b ∈ t.brs) : (deep t.brs t.brs.length b).isSome = true := by
  obtain ⟨d, hd, -⟩ := deep_some (right_sound hT) hb
  rw [hd]
  rfl
theorem find_zero {t : Tr} (hT : RightT t) : brFind t.brs 0 = none := by
  cases h : brFind t.brs 0 with
  | none => rfl
  | some b =>
    have := find_in h
    exact absurd this.2 (unit_pos ((right_sound hT).units b this.1))
theorem wayL_zero {t : Tr} (hT : RightT t) : wayL t.brs 0 = [] := wayL_none (find_zero hT)
theorem wayL_step {t : Tr} (hT : RightT t) {u : Int} {b : Br} (h : brFind t.brs u = some b) : wayL t.brs u = u :: wayL t.brs b.parent := by
  obtain ⟨hb, hu⟩ := find_in h
  have hd := right_deep hT hb
  have he : wayL t.brs u = upIds t.brs t.brs.length b := by
    unfold wayL
    rw [h]
  rw [he]
  by_cases h0 : b.parent = 0
  · rw [upIds_top _ _ _ h0, h0, wayL_zero hT, hu]
  · obtain ⟨n, hn⟩ : ∃ n, t.brs.length = n + 1 := by
      cases hl : t.brs.length with
      | zero => rw [hl, deep_cycle _ _ h0] at hd; cases hd
      | succ n => exact ⟨n, rfl⟩
    cases hp : brFind t.brs b.parent with
    | none =>
      rw [hn] at hd
      unfold deep at hd
      rw [if_neg h0, hp] at hd
      cases hd
    | some p =>
      have hw : wayL t.brs b.parent = upIds t.brs t.brs.length p := by
        unfold wayL
        rw [hp]
      rw [hw]
      have hdp := right_deep hT (find_in hp).1
      rw [hn] at hd ⊢
      rw [upIds_up _ n _ p h0 hp, hu]
      rw [deep_up _ n _ p h0 hp] at hd
      rw [hn] at hdp
      rw [up_stable n (n + 1) p (by simpa using hd) hdp]
/-- The value of its own that a unit has. -/
def ownV (vs : List Val) (n : Int) (lang : ByteArray) (u : Int) : Option Val := (getF vs u n lang).map fun s => ⟨u, n, lang, s⟩
/-- The value found on a way; only at its first unit if nothing is inherited. -/
def alongF (vs : List Val) (inh : Bool) (n : Int) (lang : ByteArray) : List Int → Option Val
  | [] => none
  | x :: r => match ownV vs n lang x with
    | some v => some v
    | none => if inh then alongF vs inh n lang r else none
/-- What found returns. -/
def foundF (l : List Br) (vs : List Val) (u n : Int) (lang : ByteArray) : Option Val := alongF vs (kindOf n).inh n lang (wayL l u)
/-- What effective returns. -/
def effF (l : List Br) (ls : List ByteArray) (vs : List Val) (u n : Int) (wt : ByteArray) : Option Val := (orderF ls wt).1.findSome? fun lg => foundF l vs u n lg
theorem own_some {vs : List Val} {n u : Int} {lang : ByteArray} {v : Val} (h : ownV vs n lang u = some v) : v.unit = u ∧ v.elem = n ∧ v.lang = lang ∧ getF vs u n lang = some v.text := by
  unfold ownV at h
  cases hg : getF vs u n lang with
  | none => rw [hg] at h; cases h
  | some s =>
    rw [hg] at h
    obtain rfl := Option.some.inj h
    exact ⟨rfl, rfl, rfl, rfl⟩
theorem own_none {vs : List Val} {n u : Int} {lang : ByteArray} : ownV vs n lang u = none ↔ getF vs u n lang = none := by
  unfold ownV
  simp
theorem along_source {vs : List Val} {inh : Bool} {n : Int} {lang : ByteArray} {v : Val} : ∀ {w : List Int}, alongF vs inh n lang w = some v →
    ∃ k, ∃ hk : k < w.length, v.unit = w[k] ∧ v.elem = n ∧ v.lang = lang ∧ getF vs w[k] n lang = some v.text ∧ (inh = false → k = 0) ∧ ∀ j (hj : j < w.length), j < k → getF vs w[j] n lang = none
  | [], h => by cases h
  | x :: r, h => by
    unfold alongF at h
    cases ho : ownV vs n lang x with
    | some v' =>
      rw [ho] at h
      obtain rfl := Option.some.inj h
      obtain ⟨h1, h2, h3, h4⟩ := own_some ho
      exact ⟨0, by simp, h1, h2, h3, h4, fun _ => rfl, fun j _ h => absurd h (Nat.not_lt_zero j)⟩
    | none =>
      rw [ho] at h
      cases inh with
      | false => simp at h
      | true =>
        simp only [if_true] at h
        obtain ⟨k, hk, h1, h2, h3, h4, _, h6⟩ := along_source h
        refine ⟨k + 1, by simpa using hk, by simpa using h1, h2, h3, by simpa using h4, (fun e => by cases e), fun j hj hjk => ?_⟩
        cases j with
        | zero => exact own_none.1 ho
        | succ j => simpa using h6 j (by simpa using hj) (by omega)
theorem along_step {vs : List Val} {inh : Bool} {n : Int} {lang : ByteArray} {x : Int} {r : List Int} : alongF vs inh n lang (x :: r) = match ownV vs n lang x with
    | some v => some v
    | none => if inh then alongF vs inh n lang r else none := rfl
theorem found_zero {t : Tr} (hT : RightT t) (vs : List Val) (n : Int) (lang : ByteArray) : foundF t.brs vs 0 n lang = none := by
  unfold foundF
  rw [wayL_zero hT]
  rfl
theorem found_step {t : Tr} (hT : RightT t) {u : Int} {b : Br} (h : brFind t.brs u = some b) (vs : List Val) (n : Int) (lang : ByteArray) : foundF t.brs vs u n lang = match ownV vs n lang u with
    | some v => some v
    | none => if (kindOf n).inh then foundF t.brs vs b.parent n lang else none := by
  unfold foundF
  rw [wayL_step hT h]
  rfl
end Go.Proofs.YtjaknioojpgkiaaGreatDoor

/- A right tree is built from nothing by creating its units, plainly. No condition. -/
namespace Go.Proofs.YtjaknioojpgkiaaGreatDoor
open Go.RowKit

def parOf (t : Tr) (x : Int) : Int := match brFind t.brs x with
  | none => -1
  | some b => b.parent
/-- In a list each unit comes behind its parent, but for those with the parent q. -/
def ParFirst (t : Tr) (q : Int) (L : List Int) : Prop := ∀ pre x post, L = pre ++ x :: post → parOf t x = q ∨ parOf t x ∈ pre
theorem ParFirst.nil (t : Tr) (q : Int) : ParFirst t q [] := fun pre x post e => by simp at e
theorem ParFirst.app {t : Tr} {q : Int} {L M : List Int} (h1 : ParFirst t q L) (h2 : ParFirst t q M) : ParFirst t q (L ++ M) := by
  intro pre x post e
  rcases List.append_eq_append_iff.1 e with ⟨bs, e1, e2⟩ | ⟨bs, e1, e2⟩
  · rcases h2 bs x post e2 with h | h
    · exact .inl h
    · exact .inr (by rw [e1]; exact List.mem_append_right _ h)
  · cases bs with
    | nil =>
      simp only [List.nil_append] at e2
      rcases h2 [] x post e2.symm with h | h
      · exact .inl h
      · cases h
    | cons y bs =>
      simp only [List.cons_append, List.cons.injEq] at e2
      obtain ⟨rfl, e2⟩ := e2
      exact h1 pre x bs e1
theorem ParFirst.flat {t : Tr} {q : Int} {g : Int → List Int} : ∀ {L : List Int}, (∀ k ∈ L, ParFirst t q (g k)) → ParFirst t q (L.flatMap g)
  | [], _ => ParFirst.nil t q
  | x :: r, h => by
    rw [List.flatMap_cons]
    exact (h x (List.mem_cons_self ..)).app (ParFirst.flat fun k hk => h k (List.mem_cons_of_mem _ hk))
end Go.Proofs.YtjaknioojpgkiaaGreatDoor

/- The laws of inheritance, plainly: languages, reach, gaps, values without a redundant one. No condition. -/
namespace Go.Proofs.YtjaknioojpgkiaaGreatDoor
open Go.RowKit

theorem get_lang {vs : List Val} {u n : Int} {lang s : ByteArray} (h : getF vs u n lang = some s) : ∃ x ∈ vs, x.unit = u ∧ x.elem = n ∧ x.lang = lang ∧ x.text = s := by
  unfold getF at h
  obtain ⟨x, hx, rfl⟩ := Option.map_eq_some_iff.1 h
  have hp := List.find?_some hx
  unfold getP at hp
  simp only [Bool.and_eq_true, beq_iff_eq] at hp
  exact ⟨x, List.mem_of_find?_eq_some hx, hp.1, hp.2.1, bytes_inj hp.2.2, rfl⟩
end Go.Proofs.YtjaknioojpgkiaaGreatDoor

/- What the questions of inheritance return, plainly. No condition. -/
namespace Go.Proofs.YtjaknioojpgkiaaGreatDoor
open Go.RowKit

def val0 : Val := ⟨0, 0, ⟨#[]⟩, ⟨#[]⟩⟩
open Classical in
/-- The error of a tree, languages and values. -/
noncomputable def ofI (t : Tr) (ls : List ByteArray) (vs : List Val) : Int := if RightT t ∧ (checkF ls vs).2 = 0 then 0 else 1
def hasI (t : Tr) (u : Int) : Int := if (brFind t.brs u).isSome = true then 0 else 7
def numI (n : Int) : Int := if isEl n = true then 0 else 2
def lanI (s : ByteArray) : Int := if isLangF s.data.toList = true then 0 else 3
/-- The error of a question. -/
noncomputable def askI (t : Tr) (ls : List ByteArray) (vs : List Val) (u n : Int) (lang : ByteArray) : Int := orF [ofI t ls vs, hasI t u, numI n, lanI lang]
noncomputable def foundR (t : Tr) (ls : List ByteArray) (vs : List Val) (u n : Int) (lang : ByteArray) : Option Val × Int :=
  if askI t ls vs u n lang = 0 then (foundF t.brs vs u n lang, 0) else (none, askI t ls vs u n lang)
def allF (t : Tr) (ls : List ByteArray) (vs : List Val) (u : Int) (wt : ByteArray) : List Val := ((List.range 8).map fun (i : Nat) => (i : Int) + 1).filterMap fun n => effF t.brs ls vs u n wt
noncomputable def allR (t : Tr) (ls : List ByteArray) (vs : List Val) (u : Int) (wt : ByteArray) : List Val × Int :=
  if askI t ls vs u 1 wt = 0 then (allF t ls vs u wt, 0) else ([], askI t ls vs u 1 wt)
/-- Whether a value repeats what its unit inherits. -/
def redB (t : Tr) (vs : List Val) (v : Val) : Bool := match brFind t.brs v.unit with
  | none => false
  | some b => (kindOf v.elem).inh && match foundF t.brs vs b.parent v.elem v.lang with
    | none => false
    | some w => w.text.toList == v.text.toList
def redF (t : Tr) (vs : List Val) : List Int := ((List.range vs.length).filter fun i => match vs[i]? with
  | none => false
  | some v => redB t vs v).map fun (i : Nat) => (i : Int)
noncomputable def redR (t : Tr) (ls : List ByteArray) (vs : List Val) : List Int × Int := if ofI t ls vs = 0 then (redF t vs, 0) else ([], 1)
theorem ofI_zero {t : Tr} {ls : List ByteArray} {vs : List Val} : ofI t ls vs = 0 ↔ RightT t ∧ RightV ls vs := by
  unfold ofI
  rw [← checkF_right]
  split
  · rename_i h
    exact ⟨fun _ => h, fun _ => rfl⟩
  · rename_i h
    exact ⟨fun k => absurd k (by decide), fun k => absurd k h⟩
theorem hasI_zero {t : Tr} {u : Int} : hasI t u = 0 ↔ ∃ b, brFind t.brs u = some b := by
  unfold hasI
  rw [← Option.isSome_iff_exists]
  split
  · rename_i h
    exact ⟨fun _ => h, fun _ => rfl⟩
  · rename_i h
    exact ⟨fun k => absurd k (by decide), fun k => absurd k h⟩
theorem numI_zero {n : Int} : numI n = 0 ↔ isEl n = true := by
  unfold numI
  split
  · rename_i h
    exact ⟨fun _ => h, fun _ => rfl⟩
  · rename_i h
    exact ⟨fun k => absurd k (by decide), fun k => absurd k h⟩
theorem lanI_zero {s : ByteArray} : lanI s = 0 ↔ isLangF s.data.toList = true := by
  unfold lanI
  split
  · rename_i h
    exact ⟨fun _ => h, fun _ => rfl⟩
  · rename_i h
    exact ⟨fun k => absurd k (by decide), fun k => absurd k h⟩
/-- A question without error. -/
theorem askI_zero {t : Tr} {ls : List ByteArray} {vs : List Val} {u n : Int} {lang : ByteArray} : askI t ls vs u n lang = 0 ↔ (RightT t ∧ RightV ls vs) ∧ (∃ b, brFind t.brs u = some b) ∧ isEl n = true ∧ isLangF lang.data.toList = true := by
  rw [← ofI_zero, ← hasI_zero, ← numI_zero, ← lanI_zero]
  unfold askI
  constructor
  · intro h
    by_cases h1 : ofI t ls vs = 0
    · by_cases h2 : hasI t u = 0
      · by_cases h3 : numI n = 0
        · by_cases h4 : lanI lang = 0
          · exact ⟨h1, h2, h3, h4⟩
          · simp [orF, h1, h2, h3, h4] at h
        · simp [orF, h1, h2, h3] at h
      · simp [orF, h1, h2] at h
    · simp [orF, h1] at h
  · rintro ⟨h1, h2, h3, h4⟩
    simp [orF, h1, h2, h3, h4]
end Go.Proofs.YtjaknioojpgkiaaGreatDoor
