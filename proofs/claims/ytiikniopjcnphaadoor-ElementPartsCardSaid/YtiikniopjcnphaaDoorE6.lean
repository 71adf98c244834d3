/- element.Check: the first fault of a list of values. No condition. -/
import Derived.Test.YtiikniopjcnphaaDoorE5
import Derived.Test.YtiikniopjcnphaaDoorSl1
namespace Go.Proofs.YtiikniopjcnphaaDoor
open Go.RowKit

def inL (l : List ByteArray) (s : ByteArray) : Bool := l.any fun y => s.toList == y.toList
/-- The fault of a value behind another one. -/
def faultV (l : List ByteArray) (prev : Option Val) (v : Val) : Int :=
  if v.unit < 1 then 2 else if 1073741824 < v.unit then 2 else if isEl v.elem = false then 2 else if inL l v.lang = false then 10 else if isTextF v.text.data.toList = false then 3
  else match prev with
    | none => 0
    | some u => if 0 ≤ orderV u v then 5 else 0
def prevV (vs : List Val) (i : Nat) : Option Val := if i = 0 then none else vs[i - 1]?
def faultAt (l : List ByteArray) (vs : List Val) (i : Nat) : Int :=
  match vs[i]? with
  | none => 0
  | some v => faultV l (prevV vs i) v
def findFault (f : Nat → Int) : Nat → Nat → Int × Int
  | 0, _ => (-1, 0)
  | n + 1, i => if f i = 0 then findFault f n (i + 1) else ((i : Int), f i)
/-- The first fault. -/
def checkF (l : List ByteArray) (vs : List Val) : Int × Int :=
  if langsF l ≠ 0 then (-1, 1) else if 1024 < vs.length then (-1, 8) else findFault (faultAt l vs) vs.length 0
theorem findFault_go (f : Nat → Int) (n i k : Nat) (hk : k ≤ n) (h : ∀ j, i ≤ j → j < i + k → f j = 0) : findFault f n i = findFault f (n - k) (i + k) := by
  induction k generalizing n i with
  | zero => rfl
  | succ k ih =>
    obtain ⟨m, rfl⟩ : ∃ m, n = m + 1 := ⟨n - 1, by omega⟩
    rw [findFault, if_pos (h i (by omega) (by omega)), ih m (i + 1) (by omega) (fun j h1 h2 => h j (by omega) (by omega))]
    congr 1 <;> omega
theorem findFault_hit (f : Nat → Int) (n k : Nat) (hk : k < n) (h : ∀ j, j < k → f j = 0) (hf : f k ≠ 0) : findFault f n 0 = ((k : Int), f k) := by
  rw [findFault_go f n 0 k (by omega) (fun j _ h2 => h j (by omega))]
  obtain ⟨m, hm⟩ : ∃ m, n - k = m + 1 := ⟨n - k - 1, by omega⟩
  rw [hm, findFault, Nat.zero_add, if_neg hf]
theorem findFault_miss (f : Nat → Int) (n : Nat) (h : ∀ j, j < n → f j = 0) : findFault f n 0 = (-1, 0) := by
  rw [findFault_go f n 0 n (Nat.le_refl _) (fun j _ h2 => h j (by omega)), Nat.sub_self]
  rfl
theorem faultAt_in (l : List ByteArray) (vs : List Val) (i : Nat) (h : i < vs.length) : faultAt l vs i = faultV l (prevV vs i) vs[i] := by
  simp [faultAt, h]
theorem ret2 {a b c d : Int} (h1 : a = c) (h2 : b = d) : Ending.returned (.tuple #[.int .i64 a, .int .i64 b]) = .returned (.tuple #[.int .i64 c, .int .i64 d]) := by rw [h1, h2]

theorem known_any (n : Int) (w : World) : Calls Tryd.prog 54 #[.int .i64 n] w fun e w' => e = .returned (.bool (isEl n)) ∧ w = w' := by
  cases h : isEl n
  · exact known_f n w h
  · exact known_t n w h

set_option maxRecDepth 100000 in
set_option maxHeartbeats 4000000 in
theorem check_any (l : List ByteArray) (vs : List Val) (lv vv : Value) (w : World) (hl : SlS w lv l) (hv : SlV w vv vs) :
    Calls Tryd.prog 30 #[lv, vv] w fun e w' => e = .returned (.tuple #[.int .i64 (checkF l vs).1, .int .i64 (checkF l vs).2]) ∧ Grew w w' := by
  have hla := languages_any l lv w hl
  have HL := Lib.hid hl
  obtain ⟨A, c, rfl, hlc, hc, hr⟩ := hv.open_
  unfold maxLen at hc
  have HR := Lib.hid hr
  clear hr hv hl
  by_cases h0 : langsF l = 0
  case neg =>
    have hC : checkF l vs = (-1, 1) := by simp [checkF, h0]
    rw [hC]
    have hne : (langsF l != 0) = true := by simpa using h0
    generalize langsF l = r at hla hne
    have HLA := Lib.hid hla
    clear hla h0 hC
    go_enter Tryd.func30, Tryd.ntmps30
    go_wp2_with (first | (go_at_call 24; refine HLA.out.mono ?_; rintro e w1 ⟨rfl, hg⟩))
    go_ret2
    exact ⟨rfl, hg⟩
  rw [h0] at hla
  have HLA := Lib.hid hla
  by_cases h1 : 1024 < vs.length
  · have hC : checkF l vs = (-1, 8) := by simp [checkF, h0, h1]
    rw [hC]
    have h1' : (1024 : Int) < (vs.length : Int) := by omega
    clear hla h0 hC
    go_enter Tryd.func30, Tryd.ntmps30
    go_wp2_with (first | (go_at_call 24; refine HLA.out.mono ?_; rintro e w1 ⟨rfl, hg⟩))
    go_ret2
    exact ⟨rfl, hg⟩
  have h1' : ¬ (1024 : Int) < (vs.length : Int) := by omega
  have hC : checkF l vs = findFault (faultAt l vs) vs.length 0 := by simp [checkF, h0, h1]
  rw [hC]
  generalize hF : findFault (faultAt l vs) vs.length 0 = R
  have HF := Lib.hid hF
  clear hla h0 hC hF h1
  go_enter Tryd.func30, Tryd.ntmps30
  go_wp2_with (first | (go_at_call 24; refine HLA.out.mono ?_; rintro e w1 ⟨rfl, hg⟩))
  go_loopg [6, 7, 18] vs.length (fun gg _ _ s18 wr => ∃ kk : Nat, kk ≤ vs.length ∧ vs.length - kk ≤ gg ∧ s18 = .int .i64 kk ∧ Aside (Grew w wr) ∧ Aside (∀ i, i < kk → faultAt l vs i = 0))
  case atStart => exact ⟨0, Nat.zero_le _, by omega, rfl, hg, fun i h => absurd h (Nat.not_lt_zero _)⟩
  case round =>
    obtain ⟨kk, hkk, hgk, rfl, BW, M⟩ := hrel
    by_cases hlt : kk < vs.length
    case neg =>
      have hltz : ¬ (kk : Int) < (vs.length : Int) := by omega
      have Hm := Lib.hid (HF.out.symm.trans (findFault_miss _ _ (fun j hj => M.out j (by omega))))
      go_wp2
      go_ret2
      refine ⟨?_, BW.out⟩
      rw [Hm.out]
      rfl
    have hltz : (kk : Int) < (vs.length : Int) := by omega
    obtain ⟨b, off, rfl, hb, hcell⟩ := HR.out (by omega)
    have HCELL := Lib.hid hcell
    obtain ⟨c0, c1, c2, c3⟩ := hcell wr BW.out kk hlt
    have hfa := faultAt_in l vs kk hlt
    have hit : faultAt l vs kk ≠ 0 → R = ((kk : Int), faultAt l vs kk) := fun h => HF.out.symm.trans (findFault_hit _ _ kk hlt M.out h)
    rw [hfa] at hit
    have HFA := Lib.hid hfa
    clear hcell hfa
    generalize hy : vs[kk] = y at c0 c1 c2 c3 hit HFA
    clear hy
    obtain ⟨yu, ye, yl, yt⟩ := y
    dsimp only at c0 c1 c2 c3
    have hkn := Lib.hid (known_any ye)
    have hct := Lib.hid (fun W (hW : Grew w W) => containsS l yl lv W (HL.out.mono hW))
    have htx := Lib.hid (isText_any yt)
    by_cases a1 : yu < 1
    · have hf : faultV l (prevV vs kk) ⟨yu, ye, yl, yt⟩ = 2 := by simp [faultV, a1]
      have Hr := Lib.hid (hit (by rw [hf]; decide))
      have Hf := Lib.hid hf
      clear hit hf hkn hct htx
      go_wp2
      go_ret2
      refine ⟨?_, BW.out.alloc _⟩
      rw [Hr.out, Hf.out]
      rfl
    by_cases a2 : 1073741824 < yu
    · have hf : faultV l (prevV vs kk) ⟨yu, ye, yl, yt⟩ = 2 := by simp [faultV, a1, a2]
      have Hr := Lib.hid (hit (by rw [hf]; decide))
      have Hf := Lib.hid hf
      clear hit hf
      go_wp2
      go_ret2
      refine ⟨?_, BW.out.alloc _⟩
      rw [Hr.out, Hf.out]
      rfl
    by_cases a3 : isEl ye = false
    · have hf : faultV l (prevV vs kk) ⟨yu, ye, yl, yt⟩ = 2 := by simp [faultV, a1, a2, a3]
      have Hk := Lib.hid a3
      clear a3
      have Hr := Lib.hid (hit (by rw [hf]; decide))
      have Hf := Lib.hid hf
      clear hit hf
      go_wp2_with (first | (go_at_call 54; refine (known_f _ _ Hk.out).mono ?_; rintro e w2 ⟨rfl, rfl⟩))
      go_ret2
      refine ⟨?_, BW.out.alloc _⟩
      rw [Hr.out, Hf.out]
      rfl
    have a3' : isEl ye = true := by simpa using a3
    have Hk := Lib.hid a3'
    have Ha3 := Lib.hid a3
    clear a3 a3'
    by_cases a4 : inL l yl = false
    · have hf : faultV l (prevV vs kk) ⟨yu, ye, yl, yt⟩ = 10 := by simp [faultV, a1, a2, Ha3.out, a4]
      have HCT : RowKit.Hid (∀ W, Grew w W → Calls Tryd.prog 28 #[lv, .string yl] W fun e w' => e = .returned (.bool false) ∧ W = w') := fun W hW => by
        have h := containsS l yl lv W (HL.out.mono hW)
        rw [show (l.any fun y => yl.toList == y.toList) = false from a4] at h
        exact h
      clear a4
      have Hr := Lib.hid (hit (by rw [hf]; decide))
      have Hf := Lib.hid hf
      clear hit hf
      go_wp2_with (first | (go_at_call 54; refine (known_t _ _ Hk.out).mono ?_; rintro e w2 ⟨rfl, rfl⟩) | (go_at_call 28; refine (HCT.out _ (BW.out.alloc _)).mono ?_; rintro e w3 ⟨rfl, rfl⟩))
      go_ret2
      refine ⟨?_, BW.out.alloc _⟩
      rw [Hr.out, Hf.out]
      rfl
    have HCT : RowKit.Hid (∀ W, Grew w W → Calls Tryd.prog 28 #[lv, .string yl] W fun e w' => e = .returned (.bool true) ∧ W = w') := fun W hW => by
      have h := containsS l yl lv W (HL.out.mono hW)
      rw [show (l.any fun y => yl.toList == y.toList) = true by simpa [inL] using a4] at h
      exact h
    have Ha4 := Lib.hid a4
    clear a4
    by_cases a5 : isTextF yt.data.toList = false
    · have hf : faultV l (prevV vs kk) ⟨yu, ye, yl, yt⟩ = 3 := by simp [faultV, a1, a2, Ha3.out, Ha4.out, a5]
      have HTX : RowKit.Hid (∀ W, Calls Tryd.prog 22 #[.string yt] W fun e w' => e = .returned (.bool false) ∧ Grew W w') := fun W => by
        have h := isText_any yt W
        rw [a5] at h
        exact h
      clear a5
      have Hr := Lib.hid (hit (by rw [hf]; decide))
      have Hf := Lib.hid hf
      clear hit hf
      go_wp2_with (first | (go_at_call 54; refine (known_t _ _ Hk.out).mono ?_; rintro e w2 ⟨rfl, rfl⟩) | (go_at_call 28; refine (HCT.out _ (BW.out.alloc _)).mono ?_; rintro e w3 ⟨rfl, rfl⟩) | (go_at_call 22; refine (HTX.out _).mono ?_; rintro e w4 ⟨rfl, hg4⟩))
      go_ret2
      refine ⟨?_, (BW.out.alloc _).trans hg4⟩
      rw [Hr.out, Hf.out]
      rfl
    have HTX : RowKit.Hid (∀ W, Calls Tryd.prog 22 #[.string yt] W fun e w' => e = .returned (.bool true) ∧ Grew W w') := fun W => by
      have h := isText_any yt W
      rw [show isTextF yt.data.toList = true by simpa using a5] at h
      exact h
    have Ha5 := Lib.hid a5
    clear a5
    rcases Nat.eq_zero_or_pos kk with hk0 | hkpos
    · subst hk0
      simp only [Nat.zero_mul, Nat.add_zero] at c0 c1 c2 c3
      have hf : faultAt l vs 0 = 0 := by rw [HFA.out]; simp [faultV, a1, a2, Ha3.out, Ha4.out, Ha5.out, prevV]
      have Hf := Lib.hid hf
      clear hit hf
      go_wp2_with (first | (go_at_call 54; refine (known_t _ _ Hk.out).mono ?_; rintro e w2 ⟨rfl, rfl⟩) | (go_at_call 28; refine (HCT.out _ (BW.out.alloc _)).mono ?_; rintro e w3 ⟨rfl, rfl⟩) | (go_at_call 22; refine (HTX.out _).mono ?_; rintro e w4 ⟨rfl, hg4⟩))
      go_quiet (fail)
      go_wp2
      go_roundg (vs.length - 1)
      case measure => omega
      case rel =>
        refine ⟨1, by omega, by omega, by go_num, (show Aside _ from ((BW.out.alloc _).trans hg4).drewN _), (show Aside _ from fun i hi => ?_)⟩
        obtain rfl : i = 0 := by omega
        exact Hf.out
    · have hp1 : kk - 1 < vs.length := by omega
      have hpv : prevV vs kk = some vs[kk - 1] := by rw [prevV, if_neg (by omega), List.getElem?_eq_getElem hp1]
      have hor := order_any vs[kk - 1] ⟨yu, ye, yl, yt⟩
      rw [hpv] at hit HFA
      have hkz : (0 : Int) < (kk : Int) := by omega
      have hki : (0 : Int) ≤ (kk : Int) - 1 := by omega
      have hki2 : (kk : Int) - 1 < (vs.length : Int) := by omega
      have hki3 : (1 : Int) ≤ (kk : Int) := by omega
      have hkt : ((kk : Int) - 1).toNat = kk - 1 := by omega
      have hzz : ∃ z, RowKit.Hid (vs[kk - 1] = z) := ⟨_, rfl⟩
      obtain ⟨⟨zu, ze, zl, zt⟩, hzz⟩ := hzz
      rw [hzz.out] at hor hit HFA
      clear hpv
      unfold Val.agg at hor
      dsimp only at hor
      by_cases a6 : 0 ≤ orderV ⟨zu, ze, zl, zt⟩ ⟨yu, ye, yl, yt⟩
      · have hf : faultV l (some ⟨zu, ze, zl, zt⟩) ⟨yu, ye, yl, yt⟩ = 5 := by simp [faultV, a1, a2, Ha3.out, Ha4.out, Ha5.out, a6]
        have Hr := Lib.hid (hit (by rw [hf]; decide))
        have Hf := Lib.hid hf
        generalize orderV ⟨zu, ze, zl, zt⟩ ⟨yu, ye, yl, yt⟩ = oo at hor a6
        have HOR := Lib.hid hor
        clear hit hf hor
        go_wp2_with (first | (go_at_call 54; refine (known_t _ _ Hk.out).mono ?_; rintro e w2 ⟨rfl, rfl⟩) | (go_at_call 28; refine (HCT.out _ (BW.out.alloc _)).mono ?_; rintro e w3 ⟨rfl, rfl⟩) | (go_at_call 22; refine (HTX.out _).mono ?_; rintro e w4 ⟨rfl, hg4⟩))
        have hgw : Grew w w4 := (BW.out.alloc _).trans hg4
        obtain ⟨d0, d1, d2, d3⟩ := HCELL.out w4 hgw (kk - 1) hp1
        rw [hzz.out] at d0 d1 d2 d3
        dsimp only at d0 d1 d2 d3
        have e0 : w4.cell? ⟨wr.heap.size, 0, none⟩ = some (.int .i64 yu) := (hg4.cell (p := ⟨wr.heap.size, 0, none⟩) (by simp)).trans (by simp)
        have e1 : w4.cell? ⟨wr.heap.size, 1, none⟩ = some (.int .i64 ye) := (hg4.cell (p := ⟨wr.heap.size, 1, none⟩) (by simp)).trans (by simp)
        have e2 : w4.cell? ⟨wr.heap.size, 2, none⟩ = some (.string yl) := (hg4.cell (p := ⟨wr.heap.size, 2, none⟩) (by simp)).trans (by simp)
        have e3 : w4.cell? ⟨wr.heap.size, 3, none⟩ = some (.string yt) := (hg4.cell (p := ⟨wr.heap.size, 3, none⟩) (by simp)).trans (by simp)
        clear HCELL HCT HTX
        have hwr : IntKind.i64.wrap ((kk : Int) - 1) = (kk : Int) - 1 := IntWalk.i64_in _ (by omega)
        refine region_still_tail 9 (by kernel_rfl) (by kernel_rfl) ?_
        simp only [List.take_succ_cons, List.take_zero, List.drop_succ_cons, List.drop_zero]
        iterate 9 still_step
        clear hwr
        refine wpStill_nil ?_
        go_wp2_with fail
        refine (HOR.out _).mono ?_
        rintro e w5 ⟨rfl, hg5⟩
        go_wp2
        go_ret2
        refine ⟨?_, hgw.drew.trans hg5⟩
        rw [Hr.out, Hf.out]
        rfl
      · have hf : faultAt l vs kk = 0 := by rw [HFA.out]; simp [faultV, a1, a2, Ha3.out, Ha4.out, Ha5.out, a6]
        have Hf := Lib.hid hf
        generalize orderV ⟨zu, ze, zl, zt⟩ ⟨yu, ye, yl, yt⟩ = oo at hor a6
        have HOR := Lib.hid hor
        clear hit hf hor
        go_wp2_with (first | (go_at_call 54; refine (known_t _ _ Hk.out).mono ?_; rintro e w2 ⟨rfl, rfl⟩) | (go_at_call 28; refine (HCT.out _ (BW.out.alloc _)).mono ?_; rintro e w3 ⟨rfl, rfl⟩) | (go_at_call 22; refine (HTX.out _).mono ?_; rintro e w4 ⟨rfl, hg4⟩))
        have hgw : Grew w w4 := (BW.out.alloc _).trans hg4
        obtain ⟨d0, d1, d2, d3⟩ := HCELL.out w4 hgw (kk - 1) hp1
        rw [hzz.out] at d0 d1 d2 d3
        dsimp only at d0 d1 d2 d3
        have e0 : w4.cell? ⟨wr.heap.size, 0, none⟩ = some (.int .i64 yu) := (hg4.cell (p := ⟨wr.heap.size, 0, none⟩) (by simp)).trans (by simp)
        have e1 : w4.cell? ⟨wr.heap.size, 1, none⟩ = some (.int .i64 ye) := (hg4.cell (p := ⟨wr.heap.size, 1, none⟩) (by simp)).trans (by simp)
        have e2 : w4.cell? ⟨wr.heap.size, 2, none⟩ = some (.string yl) := (hg4.cell (p := ⟨wr.heap.size, 2, none⟩) (by simp)).trans (by simp)
        have e3 : w4.cell? ⟨wr.heap.size, 3, none⟩ = some (.string yt) := (hg4.cell (p := ⟨wr.heap.size, 3, none⟩) (by simp)).trans (by simp)
        clear HCELL HCT HTX
        have hwr : IntKind.i64.wrap ((kk : Int) - 1) = (kk : Int) - 1 := IntWalk.i64_in _ (by omega)
        refine region_still_tail 9 (by kernel_rfl) (by kernel_rfl) ?_
        simp only [List.take_succ_cons, List.take_zero, List.drop_succ_cons, List.drop_zero]
        iterate 9 still_step
        clear hwr
        refine wpStill_nil ?_
        go_wp2_with fail
        refine (HOR.out _).mono ?_
        rintro e w5 ⟨rfl, hg5⟩
        go_wp2
        go_roundg (vs.length - (kk + 1))
        case measure => omega
        case rel =>
          refine ⟨kk + 1, by omega, by omega, by go_num, (show Aside _ from hgw.drew.trans hg5), (show Aside _ from fun i hi => ?_)⟩
          by_cases e : i = kk
          · subst e; exact Hf.out
          · exact M.out i (by omega)
end Go.Proofs.YtiikniopjcnphaaDoor
