/- The examples that every statement checks first: they hold. No condition. -/
import Derived.Test.YtiikniopjcnphaaDoorE6
import Derived.Test.YtiikniopjcnphaaDoorE7
import Derived.Test.YtiikniopjcnphaaDoorE8
import Derived.Test.YtiikniopjcnphaaDoorEq
namespace Go.Proofs.YtiikniopjcnphaaDoor
open Go.RowKit

def sEn : ByteArray := ⟨#[101, 110]⟩
def sDe : ByteArray := ⟨#[100, 101]⟩
def sFr : ByteArray := ⟨#[102, 114]⟩
def sIt : ByteArray := ⟨#[105, 116]⟩
def awkL : List ByteArray := [sEn, sDe, sFr]
def awkV : List Val := [⟨1, 2, sDe, ⟨#[97, 108, 116]⟩⟩, ⟨1, 2, sEn, ⟨#[111, 108, 100]⟩⟩]
theorem aw_o1 : orderF awkL sDe = ([sDe, sEn, sFr], 0) := by
  simp only [orderF, ordL, toList_data]
  decide +kernel
theorem aw_o2 : orderF awkL sIt = ([sEn, sDe, sFr], 0) := by
  simp only [orderF, ordL, toList_data]
  decide +kernel
theorem aw_c : checkF awkL awkV = (-1, 0) := by
  have h : ∀ i, faultAt awkL awkV i = 0 := by
    intro i
    have hi : i = 0 ∨ i = 1 ∨ 2 ≤ i := by omega
    rcases hi with rfl | rfl | hi
    · simp only [faultAt, awkV, List.getElem?_cons_zero, faultV, inL, toList_data]
      decide +kernel
    · simp only [faultAt, awkV, List.getElem?_cons_zero, List.getElem?_cons_succ, faultV, inL, toList_data]
      decide +kernel
    · have : awkV[i]? = none := List.getElem?_eq_none (by simp [awkV]; omega)
      simp only [faultAt, this]
  have hl : langsF awkL = 0 := by decide +kernel
  rw [checkF, if_neg (by rw [hl]; simp), if_neg (by decide), findFault_miss _ _ (fun j _ => h j)]
theorem aw_g : getF awkV 1 2 sEn = some ⟨#[111, 108, 100]⟩ := by
  simp only [getF]
  decide +kernel
theorem aw_of : ofF awkV 1 = awkV := by decide +kernel
theorem aw_lang : langsF awkL = 0 := by decide +kernel
theorem aw_lang0 : langsF [] = 9 := by decide +kernel
theorem aw_text : isTextF [97, 32, 98] = true := by decide +kernel
theorem aw_word : (kindOf 2).word = ⟨#[104, 105, 115, 116, 111, 114, 121]⟩ := by decide +kernel
theorem aw_num : numberF ⟨#[104, 105, 115, 116, 111, 114, 121]⟩ = 2 := by
  simp only [numberF, toList_data]
  decide +kernel
theorem aw_inh : (kindOf 2).inh = true := by decide +kernel
theorem aw_al1 : allowedF 2 3 = true := by decide +kernel
theorem aw_al2 : allowedF 2 4 = false := by decide +kernel
theorem aw_freshS (W : World) (l : List ByteArray) (h : l.length = 3) : SlS (W.alloc (.cells (l.flatMap oneS).toArray 9)) (.slice (some ⟨W.heap.size, 0, none⟩) 3 3) l := Rd.fresh W _ 1 3 (l.flatMap oneS) (by rw [flatMap_len oneS 1 (fun _ => rfl), h]) (by decide)
theorem aw_freshV (W : World) : SlV (W.alloc (.cells (awkV.flatMap Val.cells).toArray 31)) (.slice (some ⟨W.heap.size, 0, none⟩) 2 2) awkV := Rd.fresh W _ 4 2 (awkV.flatMap Val.cells) rfl (by decide)
set_option maxRecDepth 100000 in
set_option maxHeartbeats 4000000 in
theorem awake_any (w : World) : Calls Tryd.prog 9 #[] w fun e w' => e = .returned (.bool true) ∧ Grew w w' := by
  go_enter Tryd.func9, Tryd.ntmps9
  go_wp2_with fail
  have k1 := order_all awkL sDe _ _ (aw_freshS w awkL rfl)
  rw [aw_o1] at k1
  refine k1.mono ?_
  rintro e w1 ⟨v1, rfl, hs1, hg1⟩
  have HS1 := Lib.hid hs1
  have HL := Lib.hid ((aw_freshS w awkL rfl).mono hg1)
  have hG1 : Grew w w1 := ((Grew.refl w).alloc _).trans hg1
  clear k1 hs1 hg1
  dsimp only
  go_wp2_with fail
  have k2 := order_all awkL sIt _ w1 HL.out
  rw [aw_o2] at k2
  refine k2.mono ?_
  rintro e w2 ⟨v2, rfl, hs2, hg2⟩
  have HS2 := Lib.hid hs2
  have HL2 := Lib.hid (HL.out.mono hg2)
  have HS12 := Lib.hid (HS1.out.mono hg2)
  have hG2 : Grew w w2 := hG1.trans hg2
  clear k2 hs2 hg2 HL HS1 hG1
  dsimp only
  go_wp2_with fail
  have k := check_any awkL awkV _ _ _ (HL2.out.mono ((Grew.refl w2).alloc _)) (aw_freshV w2)
  rw [aw_c] at k
  refine k.mono ?_
  rintro e w3 ⟨rfl, hg⟩
  clear k
  have HL3 := Lib.hid ((HL2.out.mono ((Grew.refl w2).alloc _)).mono hg)
  have HV3 := Lib.hid ((aw_freshV w2).mono hg)
  have HA3 := Lib.hid ((HS12.out.mono ((Grew.refl w2).alloc _)).mono hg)
  have HB3 := Lib.hid ((HS2.out.mono ((Grew.refl w2).alloc _)).mono hg)
  have hG3 : Grew w w3 := (hG2.alloc _).trans hg
  dsimp only
  go_wp2_with fail
  have k := get_any awkV 1 2 sEn _ w3 HV3.out
  rw [aw_g, show optS (some (⟨#[111, 108, 100]⟩ : ByteArray)) = ⟨#[111, 108, 100]⟩ from rfl] at k
  refine k.mono ?_
  rintro e w4 ⟨rfl, hg⟩
  clear k
  have HL4 := Lib.hid (HL3.out.mono hg)
  have HV4 := Lib.hid (HV3.out.mono hg)
  have HA4 := Lib.hid (HA3.out.mono hg)
  have HB4 := Lib.hid (HB3.out.mono hg)
  have hG4 : Grew w w4 := hG3.trans hg
  clear HL3 HV3 HA3 HB3 hG3 hg
  dsimp only
  go_wp2_with fail
  have k := word_any 2 w4
  rw [aw_word] at k
  refine k.mono ?_
  rintro e w5 ⟨rfl, hg⟩
  clear k
  have HL5 := Lib.hid (HL4.out.mono hg)
  have HV5 := Lib.hid (HV4.out.mono hg)
  have HA5 := Lib.hid (HA4.out.mono hg)
  have HB5 := Lib.hid (HB4.out.mono hg)
  have hG5 : Grew w w5 := hG4.trans hg
  clear HL4 HV4 HA4 HB4 hG4 hg
  dsimp only
  go_wp2_with fail
  have k := number_any ⟨#[104, 105, 115, 116, 111, 114, 121]⟩ w5
  rw [aw_num] at k
  refine k.mono ?_
  rintro e w6 ⟨rfl, hg⟩
  clear k
  have HL6 := Lib.hid (HL5.out.mono hg)
  have HV6 := Lib.hid (HV5.out.mono hg)
  have HA6 := Lib.hid (HA5.out.mono hg)
  have HB6 := Lib.hid (HB5.out.mono hg)
  have hG6 : Grew w w6 := hG5.trans hg
  clear HL5 HV5 HA5 HB5 hG5 hg
  dsimp only
  go_wp2_with fail
  have k := inherited_any 2 w6
  rw [aw_inh] at k
  refine k.mono ?_
  rintro e w7 ⟨rfl, hg⟩
  clear k
  have HL7 := Lib.hid (HL6.out.mono hg)
  have HV7 := Lib.hid (HV6.out.mono hg)
  have HA7 := Lib.hid (HA6.out.mono hg)
  have HB7 := Lib.hid (HB6.out.mono hg)
  have hG7 : Grew w w7 := hG6.trans hg
  clear HL6 HV6 HA6 HB6 hG6 hg
  dsimp only
  go_wp2_with fail
  have k := allowed_any 2 3 w7
  rw [aw_al1] at k
  refine k.mono ?_
  rintro e w8 ⟨rfl, hg⟩
  clear k
  have HL8 := Lib.hid (HL7.out.mono hg)
  have HV8 := Lib.hid (HV7.out.mono hg)
  have HA8 := Lib.hid (HA7.out.mono hg)
  have HB8 := Lib.hid (HB7.out.mono hg)
  have hG8 : Grew w w8 := hG7.trans hg
  clear HL7 HV7 HA7 HB7 hG7 hg
  dsimp only
  go_wp2_with fail
  have k := allowed_any 2 4 w8
  rw [aw_al2] at k
  refine k.mono ?_
  rintro e w9 ⟨rfl, hg⟩
  clear k
  have HL9 := Lib.hid (HL8.out.mono hg)
  have HV9 := Lib.hid (HV8.out.mono hg)
  have HA9 := Lib.hid (HA8.out.mono hg)
  have HB9 := Lib.hid (HB8.out.mono hg)
  have hG9 : Grew w w9 := hG8.trans hg
  clear HL8 HV8 HA8 HB8 hG8 hg
  dsimp only
  go_wp2_with fail
  have k := isText_any ⟨#[97, 32, 98]⟩ w9
  rw [show isTextF (⟨#[97, 32, 98]⟩ : ByteArray).data.toList = true from aw_text] at k
  refine k.mono ?_
  rintro e w10 ⟨rfl, hg⟩
  clear k
  have HL10 := Lib.hid (HL9.out.mono hg)
  have HV10 := Lib.hid (HV9.out.mono hg)
  have HA10 := Lib.hid (HA9.out.mono hg)
  have HB10 := Lib.hid (HB9.out.mono hg)
  have hG10 : Grew w w10 := hG9.trans hg
  clear HL9 HV9 HA9 HB9 hG9 hg
  dsimp only
  go_wp2_with fail
  have k := languages_any awkL _ w10 HL10.out
  rw [aw_lang] at k
  refine k.mono ?_
  rintro e w11 ⟨rfl, hg⟩
  clear k
  have HL11 := Lib.hid (HL10.out.mono hg)
  have HV11 := Lib.hid (HV10.out.mono hg)
  have HA11 := Lib.hid (HA10.out.mono hg)
  have HB11 := Lib.hid (HB10.out.mono hg)
  have hG11 : Grew w w11 := hG10.trans hg
  clear HL10 HV10 HA10 HB10 hG10 hg
  dsimp only
  go_wp2_with fail
  have k := languages_any [] _ w11 (SlS.nil w11)
  rw [aw_lang0] at k
  refine k.mono ?_
  rintro e w12 ⟨rfl, hg⟩
  clear k
  have HL12 := Lib.hid (HL11.out.mono hg)
  have HV12 := Lib.hid (HV11.out.mono hg)
  have HA12 := Lib.hid (HA11.out.mono hg)
  have HB12 := Lib.hid (HB11.out.mono hg)
  have hG12 : Grew w w12 := hG11.trans hg
  clear HL11 HV11 HA11 HB11 hG11 hg
  dsimp only
  go_wp2_with fail
  have k := equalS [sDe, sEn, sFr] [sDe, sEn, sFr] _ _ _ (HA12.out.mono ((Grew.refl w12).alloc _)) (aw_freshS w12 [sDe, sEn, sFr] rfl)
  rw [decide_eq_true (rfl : [sDe, sEn, sFr] = [sDe, sEn, sFr])] at k
  refine k.mono ?_
  rintro e w13 ⟨rfl, hg⟩
  clear k
  have HV13 := Lib.hid ((HV12.out.mono ((Grew.refl w12).alloc _)).mono hg)
  have HB13 := Lib.hid ((HB12.out.mono ((Grew.refl w12).alloc _)).mono hg)
  have hG13 : Grew w w13 := (hG12.alloc _).trans hg
  dsimp only
  go_wp2_with fail
  have k := equalS [sEn, sDe, sFr] [sEn, sDe, sFr] _ _ _ (HB13.out.mono ((Grew.refl w13).alloc _)) (aw_freshS w13 [sEn, sDe, sFr] rfl)
  rw [decide_eq_true (rfl : [sEn, sDe, sFr] = [sEn, sDe, sFr])] at k
  refine k.mono ?_
  rintro e w14 ⟨rfl, hg⟩
  clear k
  have HV14 := Lib.hid ((HV13.out.mono ((Grew.refl w13).alloc _)).mono hg)
  have hG14 : Grew w w14 := (hG13.alloc _).trans hg
  dsimp only
  go_wp2_with fail
  have k := of_vals awkV 1 _ w14 HV14.out (by decide)
  rw [aw_of] at k
  refine k.mono ?_
  rintro e w15 ⟨v15, rfl, ho, hg⟩
  clear k
  obtain ⟨g, cap, hv, _, _, _⟩ := own_form ho (by decide)
  subst hv
  have hG15 : Grew w w15 := hG14.trans hg
  clear ho
  go_wp2
  go_ret
  exact ⟨rfl, hG15⟩
end Go.Proofs.YtiikniopjcnphaaDoor

