/- Lemmas on what the functions of the program and of the library compute: Awu. The conditions stand at each. -/
import Derived.Test.YtdochkemaiokfaaGreatQ39
/- The example of the chapter of layer 22, walked: it answers yes. The condition: the library's own variables hold what they must. -/
namespace Go.Proofs.YtdochkemaiokfaaGreat
open Go.RowKit
def awL:Nat→List Opn
 | 0=>[]
 | 1=>[uO1]
 | 2=>uL2
 | _=>uL3
set_option maxHeartbeats 16000000 in
set_option maxRecDepth 100000 in
theorem awake22 (w:World) (hE:Env w):Calls Tryz.prog 11 #[] w fun e w'=>e=.returned (.bool true)∧Grew w w':=by
 have HE:=Lib.hid hE
 have HAR:=Lib.hid (heapNew w (.cells #[.int .i64 0,.int .i64 0,.int .i64 1,.int .i64 7,.int .i64 0,.int .i64 0,.int .i64 1,.string ⟨#[84,111,119,110]⟩,.string ⟨#[84]⟩,.int .i64 0,.int .i64 0,.int .i64 0,.int .i64 0,.int .i64 0,.int .i64 1,.int .i64 8,.int .i64 7,.int .i64 0,.int .i64 2,.string ⟨#[65,99,116,115]⟩,.string ⟨#[]⟩,.int .i64 0,.int .i64 0,.int .i64 0,.int .i64 0,.int .i64 0,.int .i64 6,.int .i64 2,.int .i64 0,.int .i64 0,.int .i64 0,.string ⟨#[]⟩,.string ⟨#[]⟩,.int .i64 0,.int .i64 0,.int .i64 0] 26))
 have HG0:=Lib.hid ((Grew.refl w).alloc (.cells #[.int .i64 0,.int .i64 0,.int .i64 1,.int .i64 7,.int .i64 0,.int .i64 0,.int .i64 1,.string ⟨#[84,111,119,110]⟩,.string ⟨#[84]⟩,.int .i64 0,.int .i64 0,.int .i64 0,.int .i64 0,.int .i64 0,.int .i64 1,.int .i64 8,.int .i64 7,.int .i64 0,.int .i64 2,.string ⟨#[65,99,116,115]⟩,.string ⟨#[]⟩,.int .i64 0,.int .i64 0,.int .i64 0,.int .i64 0,.int .i64 0,.int .i64 6,.int .i64 2,.int .i64 0,.int .i64 0,.int .i64 0,.string ⟨#[]⟩,.string ⟨#[]⟩,.int .i64 0,.int .i64 0,.int .i64 0] 26))
 clear hE
 go_enter Tryz.func11,Tryz.ntmps11
 go_wp2_with fail
 generalize w.alloc (.cells #[.int .i64 0,.int .i64 0,.int .i64 1,.int .i64 7,.int .i64 0,.int .i64 0,.int .i64 1,.string ⟨#[84,111,119,110]⟩,.string ⟨#[84]⟩,.int .i64 0,.int .i64 0,.int .i64 0,.int .i64 0,.int .i64 0,.int .i64 1,.int .i64 8,.int .i64 7,.int .i64 0,.int .i64 2,.string ⟨#[65,99,116,115]⟩,.string ⟨#[]⟩,.int .i64 0,.int .i64 0,.int .i64 0,.int .i64 0,.int .i64 0,.int .i64 6,.int .i64 2,.int .i64 0,.int .i64 0,.int .i64 0,.string ⟨#[]⟩,.string ⟨#[]⟩,.int .i64 0,.int .i64 0,.int .i64 0] 26)=w1 at *
 generalize w.heap.size=LB at *
 go_loopg [1,35] 3 (fun gg s1 s35 wr=>∃ kk:Nat,kk≤3∧3-kk≤gg∧s35=.int .i64 kk∧∃ A c,s1=.slice A kk c∧Aside (SlO wr (.slice A kk c) (awL kk))∧Aside (Grew w1 wr))
 case atStart=>exact⟨0,by omega,by omega,rfl,none,0,rfl,(show Aside _ from SlO.nil _),(show Aside _ from Grew.refl _)⟩
 case round =>
  obtain⟨kk,hkk,hgk,rfl,A,c,rfl,HS,HG⟩:=hrel
  have HS1:=Lib.hid HS.out
  have HG1:=Lib.hid HG.out
  have HGW:=Lib.hid (HG0.out.trans HG.out)
  have HAW:=Lib.hid (heapKeep HG.out HAR.out)
  clear HS HG
  have hcs:kk=0∨kk=1∨kk=2∨kk=3:=by omega
  rcases hcs with rfl|rfl|rfl|rfl
  ·replace HS1:=Lib.hid (show SlO wr (.slice A 0 c) [] from HS1.out)
   have c0:wr.cell? ⟨LB,0,none⟩=some (.int .i64 0):=cellOf HAW.out rfl
   have c1:wr.cell? ⟨LB,1,none⟩=some (.int .i64 0):=cellOf HAW.out rfl
   have c2:wr.cell? ⟨LB,2,none⟩=some (.int .i64 1):=cellOf HAW.out rfl
   have c3:wr.cell? ⟨LB,3,none⟩=some (.int .i64 7):=cellOf HAW.out rfl
   have c4:wr.cell? ⟨LB,4,none⟩=some (.int .i64 0):=cellOf HAW.out rfl
   have c5:wr.cell? ⟨LB,5,none⟩=some (.int .i64 0):=cellOf HAW.out rfl
   have c6:wr.cell? ⟨LB,6,none⟩=some (.int .i64 1):=cellOf HAW.out rfl
   have c7:wr.cell? ⟨LB,7,none⟩=some (.string ⟨#[84,111,119,110]⟩):=cellOf HAW.out rfl
   have c8:wr.cell? ⟨LB,8,none⟩=some (.string ⟨#[84]⟩):=cellOf HAW.out rfl
   have c9:wr.cell? ⟨LB,9,none⟩=some (.int .i64 0):=cellOf HAW.out rfl
   have c10:wr.cell? ⟨LB,10,none⟩=some (.int .i64 0):=cellOf HAW.out rfl
   have c11:wr.cell? ⟨LB,11,none⟩=some (.int .i64 0):=cellOf HAW.out rfl
   have HXA:=Lib.hid (heapNew wr (.cells #[.int .i64 0,.int .i64 0,.int .i64 1,.int .i64 7,.int .i64 0,.int .i64 0,.int .i64 1,.string ⟨#[84,111,119,110]⟩,.string ⟨#[84]⟩,.int .i64 0,.int .i64 0,.int .i64 0] 26))
   have HGA:=Lib.hid ((Grew.refl wr).alloc (.cells #[.int .i64 0,.int .i64 0,.int .i64 1,.int .i64 7,.int .i64 0,.int .i64 0,.int .i64 1,.string ⟨#[84,111,119,110]⟩,.string ⟨#[84]⟩,.int .i64 0,.int .i64 0,.int .i64 0] 26))
   go_wp2_with fail
   clear c0 c1 c2 c3 c4 c5 c6 c7 c8 c9 c10 c11
   refine(aw_ad1 _ (HE.out.mono (HGW.out.alloc _)) _ (SlO.mono HS1.out ((Grew.refl wr).alloc _))).mono ?_
   rintro e w2 ⟨A2,c2,rfl,h2,g2⟩
   have HS2:=Lib.hid h2
   have HG2:=Lib.hid ((HG1.out.alloc _).trans g2)
   clear h2 g2 HS1 HG1 HXA HGA
   dsimp only
   go_wp2
   go_roundg (3-(0+1))
   case measure=>omega
   case rel=>exact⟨1,by omega,by omega,by first|rfl|go_num,A2,c2,rfl,(show Aside _ from HS2.out),(show Aside _ from HG2.out)⟩
  ·replace HS1:=Lib.hid (show SlO wr (.slice A 1 c) [uO1] from HS1.out)
   have c0:wr.cell? ⟨LB,12,none⟩=some (.int .i64 0):=cellOf HAW.out rfl
   have c1:wr.cell? ⟨LB,13,none⟩=some (.int .i64 0):=cellOf HAW.out rfl
   have c2:wr.cell? ⟨LB,14,none⟩=some (.int .i64 1):=cellOf HAW.out rfl
   have c3:wr.cell? ⟨LB,15,none⟩=some (.int .i64 8):=cellOf HAW.out rfl
   have c4:wr.cell? ⟨LB,16,none⟩=some (.int .i64 7):=cellOf HAW.out rfl
   have c5:wr.cell? ⟨LB,17,none⟩=some (.int .i64 0):=cellOf HAW.out rfl
   have c6:wr.cell? ⟨LB,18,none⟩=some (.int .i64 2):=cellOf HAW.out rfl
   have c7:wr.cell? ⟨LB,19,none⟩=some (.string ⟨#[65,99,116,115]⟩):=cellOf HAW.out rfl
   have c8:wr.cell? ⟨LB,20,none⟩=some (.string ⟨#[]⟩):=cellOf HAW.out rfl
   have c9:wr.cell? ⟨LB,21,none⟩=some (.int .i64 0):=cellOf HAW.out rfl
   have c10:wr.cell? ⟨LB,22,none⟩=some (.int .i64 0):=cellOf HAW.out rfl
   have c11:wr.cell? ⟨LB,23,none⟩=some (.int .i64 0):=cellOf HAW.out rfl
   have HXA:=Lib.hid (heapNew wr (.cells #[.int .i64 0,.int .i64 0,.int .i64 1,.int .i64 8,.int .i64 7,.int .i64 0,.int .i64 2,.string ⟨#[65,99,116,115]⟩,.string ⟨#[]⟩,.int .i64 0,.int .i64 0,.int .i64 0] 26))
   have HGA:=Lib.hid ((Grew.refl wr).alloc (.cells #[.int .i64 0,.int .i64 0,.int .i64 1,.int .i64 8,.int .i64 7,.int .i64 0,.int .i64 2,.string ⟨#[65,99,116,115]⟩,.string ⟨#[]⟩,.int .i64 0,.int .i64 0,.int .i64 0] 26))
   go_wp2_with fail
   clear c0 c1 c2 c3 c4 c5 c6 c7 c8 c9 c10 c11
   refine(aw_ad2 _ (HE.out.mono (HGW.out.alloc _)) _ (SlO.mono HS1.out ((Grew.refl wr).alloc _))).mono ?_
   rintro e w2 ⟨A2,c2,rfl,h2,g2⟩
   have HS2:=Lib.hid h2
   have HG2:=Lib.hid ((HG1.out.alloc _).trans g2)
   clear h2 g2 HS1 HG1 HXA HGA
   dsimp only
   go_wp2
   go_roundg (3-(1+1))
   case measure=>omega
   case rel=>exact⟨2,by omega,by omega,by first|rfl|go_num,A2,c2,rfl,(show Aside _ from HS2.out),(show Aside _ from HG2.out)⟩
  ·replace HS1:=Lib.hid (show SlO wr (.slice A 2 c) uL2 from HS1.out)
   have c0:wr.cell? ⟨LB,24,none⟩=some (.int .i64 0):=cellOf HAW.out rfl
   have c1:wr.cell? ⟨LB,25,none⟩=some (.int .i64 0):=cellOf HAW.out rfl
   have c2:wr.cell? ⟨LB,26,none⟩=some (.int .i64 6):=cellOf HAW.out rfl
   have c3:wr.cell? ⟨LB,27,none⟩=some (.int .i64 2):=cellOf HAW.out rfl
   have c4:wr.cell? ⟨LB,28,none⟩=some (.int .i64 0):=cellOf HAW.out rfl
   have c5:wr.cell? ⟨LB,29,none⟩=some (.int .i64 0):=cellOf HAW.out rfl
   have c6:wr.cell? ⟨LB,30,none⟩=some (.int .i64 0):=cellOf HAW.out rfl
   have c7:wr.cell? ⟨LB,31,none⟩=some (.string ⟨#[]⟩):=cellOf HAW.out rfl
   have c8:wr.cell? ⟨LB,32,none⟩=some (.string ⟨#[]⟩):=cellOf HAW.out rfl
   have c9:wr.cell? ⟨LB,33,none⟩=some (.int .i64 0):=cellOf HAW.out rfl
   have c10:wr.cell? ⟨LB,34,none⟩=some (.int .i64 0):=cellOf HAW.out rfl
   have c11:wr.cell? ⟨LB,35,none⟩=some (.int .i64 0):=cellOf HAW.out rfl
   have HXA:=Lib.hid (heapNew wr (.cells #[.int .i64 0,.int .i64 0,.int .i64 6,.int .i64 2,.int .i64 0,.int .i64 0,.int .i64 0,.string ⟨#[]⟩,.string ⟨#[]⟩,.int .i64 0,.int .i64 0,.int .i64 0] 26))
   have HGA:=Lib.hid ((Grew.refl wr).alloc (.cells #[.int .i64 0,.int .i64 0,.int .i64 6,.int .i64 2,.int .i64 0,.int .i64 0,.int .i64 0,.string ⟨#[]⟩,.string ⟨#[]⟩,.int .i64 0,.int .i64 0,.int .i64 0] 26))
   go_wp2_with fail
   clear c0 c1 c2 c3 c4 c5 c6 c7 c8 c9 c10 c11
   refine(aw_ad3 _ (HE.out.mono (HGW.out.alloc _)) _ (SlO.mono HS1.out ((Grew.refl wr).alloc _))).mono ?_
   rintro e w2 ⟨A2,c2,rfl,h2,g2⟩
   have HS2:=Lib.hid h2
   have HG2:=Lib.hid ((HG1.out.alloc _).trans g2)
   clear h2 g2 HS1 HG1 HXA HGA
   dsimp only
   go_wp2
   go_roundg (3-(2+1))
   case measure=>omega
   case rel=>exact⟨3,by omega,by omega,by first|rfl|go_num,A2,c2,rfl,(show Aside _ from HS2.out),(show Aside _ from HG2.out)⟩
  ·replace HS1:=Lib.hid (show SlO wr (.slice A 3 c) uL3 from HS1.out)
   clear HG1 HAW HAR HG0
   go_wp2_with fail
   refine(aw_cnt _ (HE.out.mono HGW.out) _ HS1.out).mono ?_
   rintro e v2 ⟨CA,cc,rfl,hc,gq⟩
   replace HGW:=Lib.hid (HGW.out.trans gq)
   replace HS1:=Lib.hid (HS1.out.mono gq)
   have HC:=Lib.hid hc
   clear hc gq
   dsimp only
   go_wp2_with fail
   refine(aw_tr3 _ (HE.out.mono HGW.out) _ HS1.out).mono ?_
   rintro e v3 ⟨R1,r1,k1,B1,b1,rfl,gq⟩
   have gx1:=gq.alloc (.cells #[.slice R1 k1 r1,.slice B1 1 b1] 43)
   replace HGW:=Lib.hid (HGW.out.trans gx1)
   replace HS1:=Lib.hid (HS1.out.mono gx1)
   replace HC:=Lib.hid (HC.out.mono gx1)
   have HB1:=Lib.hid (heapNew v3 (.cells #[.slice R1 k1 r1,.slice B1 1 b1] 43))
   clear gq gx1
   obtain⟨v3x,hv3x⟩:∃ wx,v3.alloc (.cells #[.slice R1 k1 r1,.slice B1 1 b1] 43)=wx:=⟨_,rfl⟩
   rw[hv3x] at HGW HS1 HC HB1
   obtain⟨T1,hT1⟩:∃ T,v3.heap.size=T:=⟨_,rfl⟩
   rw[hT1] at HB1
   dsimp only
   go_wp2_with fail
   refine(aw_no4 _ (HE.out.mono HGW.out) _ HS1.out).mono ?_
   rintro e v4 ⟨n4,rfl,gq⟩
   replace HGW:=Lib.hid (HGW.out.trans gq)
   replace HS1:=Lib.hid (HS1.out.mono gq)
   replace HC:=Lib.hid (HC.out.mono gq)
   replace HB1:=Lib.hid (heapKeep gq HB1.out)
   clear gq
   dsimp only
   go_wp2_with fail
   refine(aw_ad4 _ (HE.out.mono HGW.out) _ HS1.out).mono ?_
   rintro e v5 ⟨A5,c5,rfl,h5,gq⟩
   replace HGW:=Lib.hid (HGW.out.trans gq)
   replace HS1:=Lib.hid (HS1.out.mono gq)
   replace HC:=Lib.hid (HC.out.mono gq)
   replace HB1:=Lib.hid (heapKeep gq HB1.out)
   have HS4:=Lib.hid h5
   clear h5 gq HS1
   dsimp only
   go_wp2_with fail
   refine(aw_tr4 _ (HE.out.mono HGW.out) _ HS4.out).mono ?_
   rintro e v6 ⟨R2,r2,k2,B2,b2,rfl,gq⟩
   have gx2:=gq.alloc (.cells #[.slice R2 k2 r2,.slice B2 2 b2] 43)
   replace HGW:=Lib.hid (HGW.out.trans gx2)
   replace HC:=Lib.hid (HC.out.mono gx2)
   replace HB1:=Lib.hid (heapKeep gx2 HB1.out)
   replace HS4:=Lib.hid (HS4.out.mono gx2)
   have HB2:=Lib.hid (heapNew v6 (.cells #[.slice R2 k2 r2,.slice B2 2 b2] 43))
   clear gq gx2
   obtain⟨v6x,hv6x⟩:∃ wx,v6.alloc (.cells #[.slice R2 k2 r2,.slice B2 2 b2] 43)=wx:=⟨_,rfl⟩
   rw[hv6x] at HGW HC HB1 HS4 HB2
   obtain⟨T2,hT2⟩:∃ T,v6.heap.size=T:=⟨_,rfl⟩
   rw[hT2] at HB2
   dsimp only
   go_wp2_with fail
   refine(aw_no5 _ (HE.out.mono HGW.out) _ HS4.out).mono ?_
   rintro e v7 ⟨n7,rfl,gq⟩
   replace HGW:=Lib.hid (HGW.out.trans gq)
   replace HC:=Lib.hid (HC.out.mono gq)
   replace HB1:=Lib.hid (heapKeep gq HB1.out)
   replace HS4:=Lib.hid (HS4.out.mono gq)
   replace HB2:=Lib.hid (heapKeep gq HB2.out)
   clear gq
   dsimp only
   go_wp2_with fail
   refine(aw_led _ (HE.out.mono HGW.out) _ HS4.out).mono ?_
   rintro e v8 ⟨MA,mc,rfl,hm,gq⟩
   replace HGW:=Lib.hid (HGW.out.trans gq)
   replace HC:=Lib.hid (HC.out.mono gq)
   replace HB1:=Lib.hid (heapKeep gq HB1.out)
   replace HS4:=Lib.hid (HS4.out.mono gq)
   replace HB2:=Lib.hid (heapKeep gq HB2.out)
   have HM:=Lib.hid hm
   clear hm gq
   dsimp only
   go_wp2_with fail
   refine(aw_at _ (HE.out.mono HGW.out) _ HS4.out).mono ?_
   rintro e v9 ⟨R3,r3,k3,B3,b3,rfl,gq⟩
   have gx3:=gq.alloc (.cells #[.slice R3 k3 r3,.slice B3 2 b3] 43)
   replace HGW:=Lib.hid (HGW.out.trans gx3)
   replace HC:=Lib.hid (HC.out.mono gx3)
   replace HB1:=Lib.hid (heapKeep gx3 HB1.out)
   replace HS4:=Lib.hid (HS4.out.mono gx3)
   replace HB2:=Lib.hid (heapKeep gx3 HB2.out)
   replace HM:=Lib.hid (HM.out.mono gx3)
   have HB3:=Lib.hid (heapNew v9 (.cells #[.slice R3 k3 r3,.slice B3 2 b3] 43))
   clear gq gx3
   obtain⟨v9x,hv9x⟩:∃ wx,v9.alloc (.cells #[.slice R3 k3 r3,.slice B3 2 b3] 43)=wx:=⟨_,rfl⟩
   rw[hv9x] at HGW HC HB1 HS4 HB2 HM HB3
   obtain⟨T3,hT3⟩:∃ T,v9.heap.size=T:=⟨_,rfl⟩
   rw[hT3] at HB3
   dsimp only
   go_wp2_with fail
   refine(aw_ev _ (HE.out.mono HGW.out) _ HS4.out).mono ?_
   rintro e va ⟨EA,ec,rfl,gq⟩
   replace HGW:=Lib.hid (HGW.out.trans gq)
   replace HC:=Lib.hid (HC.out.mono gq)
   replace HB1:=Lib.hid (heapKeep gq HB1.out)
   replace HS4:=Lib.hid (HS4.out.mono gq)
   replace HB2:=Lib.hid (heapKeep gq HB2.out)
   replace HM:=Lib.hid (HM.out.mono gq)
   replace HB3:=Lib.hid (heapKeep gq HB3.out)
   clear gq
   dsimp only
   go_wp2_with fail
   refine(aw_ck _ (HE.out.mono HGW.out) _ HS4.out).mono ?_
   rintro e vb ⟨rfl,gq⟩
   replace HGW:=Lib.hid (HGW.out.trans gq)
   replace HC:=Lib.hid (HC.out.mono gq)
   replace HB1:=Lib.hid (heapKeep gq HB1.out)
   replace HS4:=Lib.hid (HS4.out.mono gq)
   replace HB2:=Lib.hid (heapKeep gq HB2.out)
   replace HM:=Lib.hid (HM.out.mono gq)
   replace HB3:=Lib.hid (heapKeep gq HB3.out)
   clear gq HS4
   dsimp only
   go_wp2_with fail
   refine(eqI22 _ vb vb HC.out (Grew.refl _)).mono ?_
   rintro e vc ⟨rfl,gz⟩
   have gq:=((Grew.refl vb).alloc (.cells #[.int .i64 1] 3)).trans gz
   replace HGW:=Lib.hid (HGW.out.trans gq)
   replace HB1:=Lib.hid (heapKeep gq HB1.out)
   replace HB2:=Lib.hid (heapKeep gq HB2.out)
   replace HM:=Lib.hid (HM.out.mono gq)
   replace HB3:=Lib.hid (heapKeep gq HB3.out)
   clear gq gz HC
   dsimp only
   have t1:vc.cell? ⟨T1,1,none⟩=some (.slice B1 1 b1):=cellOf HB1.out rfl
   have t2:vc.cell? ⟨T2,1,none⟩=some (.slice B2 2 b2):=cellOf HB2.out rfl
   go_wp2_with fail
   clear t1 t2
   refine(eqM22 _ vc vc HM.out (Grew.refl _)).mono ?_
   rintro e vd ⟨rfl,gz⟩
   have gq:=((Grew.refl vc).alloc (.cells #[.string ⟨#[84]⟩,.int .i64 7] 62)).trans gz
   replace HGW:=Lib.hid (HGW.out.trans gq)
   replace HB1:=Lib.hid (heapKeep gq HB1.out)
   replace HB2:=Lib.hid (heapKeep gq HB2.out)
   replace HB3:=Lib.hid (heapKeep gq HB3.out)
   clear gq gz HM
   dsimp only
   have t3:vd.cell? ⟨T3,1,none⟩=some (.slice B3 2 b3):=cellOf HB3.out rfl
   go_wp2
   go_ret
   exact⟨rfl,HGW.out⟩
end Go.Proofs.YtdochkemaiokfaaGreat