/- The statement on texts and languages, walked: it returns true at every input and changes no block that lay before. No condition. -/
import Derived.Test.YtiikniopjcnphaaDoorE9
import Derived.Test.YtiikniopjcnphaaDoorR3
import Derived.Test.YtiikniopjcnphaaDoorR4
namespace Go.Proofs.YtiikniopjcnphaaDoor
open Go.RowKit

theorem fresh1V (W : World) (x : Val) : SlV (W.alloc (.cells #[.int .i64 x.unit, .int .i64 x.elem, .string x.lang, .string x.text] 31)) (.slice (some ⟨W.heap.size, 0, none⟩) 1 1) [x] := Rd.fresh W _ 4 1 ([x].flatMap Val.cells) rfl (by decide)
set_option maxRecDepth 100000 in
set_option maxHeartbeats 4000000 in
theorem texts_any (s : ByteArray) (l : List ByteArray) (v : Value) (wt : ByteArray) (w : World) (hv : SlS w v l) : Calls Tryd.prog 4 #[.string s, v, .string wt] w fun e w' => e = .returned (.bool true) ∧ Grew w w' := by
  have HV := Lib.hid hv
  clear hv
  go_enter Tryd.func4, Tryd.ntmps4
  go_wp2_with fail
  refine (awake_any _).mono ?_
  rintro e w1 ⟨rfl, g1⟩
  dsimp only
  go_wp2_with fail
  refine (few_any l [⟨0, 0, ⟨#[]⟩, s⟩] v _ _ (HV.out.mono (g1.alloc _)) (fresh1V w1 ⟨0, 0, ⟨#[]⟩, s⟩)).mono ?_
  rintro e w2 ⟨h, rfl⟩
  rcases h with rfl | ⟨rfl, h10, -⟩
  · dsimp only
    go_wp2_with fail
    refine (awake_any _).mono ?_
    rintro e w3 ⟨rfl, g3⟩
    dsimp only
    go_wp2_with fail
    go_ret
    exact ⟨rfl, (g1.alloc _).trans g3⟩
  by_cases hw : 20 < wt.size
  · have hs2 : ((20 : Int) < (wt.size : Int)) := by omega
    dsimp only
    go_wp2_with fail
    refine (awake_any _).mono ?_
    rintro e w3 ⟨rfl, g3⟩
    dsimp only
    go_wp2_with fail
    go_ret
    exact ⟨rfl, (g1.alloc _).trans g3⟩
  have hs2 : decide ((20 : Int) < (wt.size : Int)) = false := by simp; omega
  have G2 : Grew w (w1.alloc (.cells #[.int .i64 0, .int .i64 0, .string ⟨#[]⟩, .string s] 31)) := g1.alloc _
  have HG := Lib.hid G2
  clear G2 hw g1
  dsimp only
  go_wp2_with fail
  refine (cloneS l v _ (HV.out.mono HG.out) (by omega)).mono ?_
  rintro e w3 ⟨v3, rfl, ho3, g3⟩
  have HO3 := Lib.hid ho3
  have HG3 := Lib.hid (HG.out.trans g3)
  clear ho3 g3 HG
  have k1 := order_all l wt v3 w3 (Rd.of_own HO3.out)
  have k2 := fun W (hW : Grew w W) => refOrder_all l wt v W (HV.out.mono hW)
  generalize orderF l wt = R at k1 k2
  obtain ⟨o, ee⟩ := R
  dsimp only at k1 k2
  have K2 := Lib.hid k2
  have K1 := Lib.hid k1
  clear k1 k2
  dsimp only
  go_wp2_with fail
  refine K1.out.mono ?_
  rintro e w4 ⟨v4, rfl, hs4, g4⟩
  have HS4 := Lib.hid hs4
  have HG4 := Lib.hid (HG3.out.trans g4)
  clear hs4 g4 HG3 HO3 K1
  dsimp only
  go_wp2_with fail
  refine (K2.out _ HG4.out).mono ?_
  rintro e w5 ⟨v5, rfl, hs5, g5⟩
  have HS5 := Lib.hid hs5
  have HS45 := Lib.hid (HS4.out.mono g5)
  have HG5 := Lib.hid (HG4.out.trans g5)
  clear hs5 g5 HG4 HS4 K2
  dsimp only
  have t1 := isText_any s
  have t2 := refIsText_any s
  generalize isTextF s.data.toList = tt at t1 t2
  have T1 := Lib.hid t1
  have T2 := Lib.hid t2
  clear t1 t2
  go_wp2_with fail
  refine (T1.out _).mono ?_
  rintro e w6 ⟨rfl, g6⟩
  have HG6 := Lib.hid (HG5.out.trans g6)
  have HS46 := Lib.hid (HS45.out.mono g6)
  have HS56 := Lib.hid (HS5.out.mono g6)
  clear g6 HG5 HS45 HS5
  dsimp only
  go_wp2_with fail
  refine (T2.out _).mono ?_
  rintro e w7 ⟨rfl, g7⟩
  have HG7 := Lib.hid (HG6.out.trans g7)
  have HS47 := Lib.hid (HS46.out.mono g7)
  have HS57 := Lib.hid (HS56.out.mono g7)
  clear g7 HG6 HS46 HS56
  dsimp only
  have htt : (tt == tt) = true := by simp
  go_wp2_with fail
  refine (cloneS l v _ (HV.out.mono HG7.out) (by omega)).mono ?_
  rintro e w8 ⟨v8, rfl, ho8, g8⟩
  have HO8 := Lib.hid ho8
  have HG8 := Lib.hid (HG7.out.trans g8)
  have HS48 := Lib.hid (HS47.out.mono g8)
  have HS58 := Lib.hid (HS57.out.mono g8)
  clear ho8 g8 HG7 HS47 HS57
  have l1 := languages_any l v8 w8 (Rd.of_own HO8.out)
  have l2 := fun W (hW : Grew w W) => refLanguages_any l v W (HV.out.mono hW)
  generalize langsF l = ll at l1 l2
  have L1 := Lib.hid l1
  have L2 := Lib.hid l2
  clear l1 l2
  dsimp only
  go_wp2_with fail
  refine L1.out.mono ?_
  rintro e w9 ⟨rfl, g9⟩
  have HG9 := Lib.hid (HG8.out.trans g9)
  have HS49 := Lib.hid (HS48.out.mono g9)
  have HS59 := Lib.hid (HS58.out.mono g9)
  clear g9 HG8 HS48 HS58 L1 HO8
  dsimp only
  go_wp2_with fail
  refine (L2.out _ HG9.out).mono ?_
  rintro e w10 ⟨rfl, g10⟩
  have HG10 := Lib.hid (HG9.out.trans g10)
  have HS410 := Lib.hid (HS49.out.mono g10)
  have HS510 := Lib.hid (HS59.out.mono g10)
  clear g10 HG9 HS49 HS59 L2
  dsimp only
  have hll : (ll == ll) = true := by simp
  have hee : (ee == ee) = true := by simp
  go_wp2_with fail
  refine (equalS o o _ _ _ HS410.out HS510.out).mono ?_
  rintro e w11 ⟨rfl, g11⟩
  have HG11 := Lib.hid (HG10.out.trans g11)
  clear g11 HG10
  simp only [decide_true]
  go_wp2_with fail
  go_ret
  exact ⟨rfl, HG11.out⟩
end Go.Proofs.YtiikniopjcnphaaDoor
