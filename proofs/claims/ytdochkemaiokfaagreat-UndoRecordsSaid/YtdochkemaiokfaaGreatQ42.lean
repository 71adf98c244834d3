/- Lemmas on what the functions of the program and of the library compute: Ru9, DelU, UnN, UnO, FrameR, OpenR, OpenO, OpenU, PlainUx. The conditions stand at each. -/
import Derived.BigQuiet
import Derived.Deep.CutRange
import Derived.Deep.RegionHeld3
import Derived.Test.YtdochkemaiokfaaGreatQ41
import Derived.Test.YtdochkemaiokfaaGreatQ1
import Derived.Test.YtdochkemaiokfaaGreatQ2
import Derived.Test.YtdochkemaiokfaaGreatQ15
import Derived.Test.YtdochkemaiokfaaGreatQ31
import Derived.Test.YtdochkemaiokfaaGreatProg
import Derived.Test.YtdochkemaiokfaaGreatQ29
import Derived.Test.YtdochkemaiokfaaGreatQ7
import Derived.Test.YtdochkemaiokfaaGreatQ33
import Derived.Test.YtdochkemaiokfaaGreatQ30
import Derived.OwnWalkIn
import Derived.Test.YtdochkemaiokfaaGreatRows
import Derived.WalkKit
import Derived.ProofKit
import Derived.OpenShut
import Derived.Carry
import Derived.ChangeMaps5
import Derived.SliceStrings
import Derived.Deep.Slices
import Derived.Deep.DeepHandedRow
import Derived.Lib.LaidTab
import Derived.LaidSub
import Derived.Shelf.Vars
import Derived.Test.YtdochkemaiokfaaGreatQ10
import Derived.Test.YtdochkemaiokfaaGreatQ16
import Derived.Test.YtdochkemaiokfaaGreatQ34
set_option maxHeartbeats 16000000
set_option maxRecDepth 100000
set_option linter.all false
namespace Go.Proofs.YtdochkemaiokfaaGreat
open Go.RowKit
def bBl (n:Int) (W0:World) (s6:Value) (wx:World):Prop:=s6=.int .i64 n∧aA W0 wx
theorem zN (l:List Opn) (hm:∀ x∈l,x.mark.size≤100) (hlen:l.length<1000000) (lv:Value) (w:World) (hv:SlO w lv l):Calls Tryz.prog 16 #[lv] w fun e w'=>e=.returned (.tuple #[.int .i64 (cS l).2.1,.int .i64 (cS l).2.2])∧aA w w':=by
 obtain⟨A,c,rfl,hlc,hcap,hr⟩:=hv.open_;unfold maxLen at hcap;have HR:=uZ hr;have HN:=uZ hlen;have KA:=uZ (fun k (hk:k<l.length) (hA:gD (l.take k)) W (g:aA w W)=>zP (l.take k) l[k] hA (fun x hx=>hm x (List.mem_of_mem_take hx)) (hm _ (List.getElem_mem hk)) b_41 _ W ((SlO.takeN hv k b_53).mono g));have HNX:=uZ (fun k (hk:k<l.length) (hA:gD (l.take k))=>aIm hk hA);have HST:=uZ (fun k (hk:k<l.length) (hA:gD (l.take k))=>aIl hk hA)
 have HEN:=uZ (fun(hA:gD (l.take l.length))=>(show(cS l).2=(-1,0) from by
  rw[List.take_length] at hA
  rw[aVp hA]))
 generalize (cS l).2=RES at HST HEN ⊢;clear hv hr hm hlen;go_enter Tryz.func16,Tryz.ntmps16;go_wp2;go_loopg [4] l.length (fun gg s4 wr=>∃ kk:Nat,kk≤l.length∧l.length-kk≤gg∧s4=.int .i64 kk∧Aside (gD (l.take kk))∧Aside (aA w wr))
 case atStart=>exact⟨0,Nat.zero_le _,by omega,rfl,(show Aside _ from .nil),(show Aside _ from uX w)⟩
 case round =>
  obtain⟨kk,hkk,hg,rfl,AM,BW⟩:=hrel;have HAM:=uZ AM.out;have HBW:=uZ BW.out;have hN:=HN.out;clear AM BW;by_cases hlt:kk<l.length
  case neg =>
   have hltz:=h_197;obtain rfl:kk=l.length:=by omega
   have hres:=HEN.out HAM.out;subst hres;go_wp2;refine bodyPost_ret (v:=.tuple #[.int .i64 (-1),.int .i64 0]) (by simp[results,Tryz.results16,go_sem]) rfl ⟨rfl,HBW.out⟩
  case pos =>
   have hltz:=h_201;have h0z:=h_214;have hkc:(kk:Int)≤(c:Int):=by omega
   obtain⟨b,off,rfl,hbb,hcell⟩:=HR.out b_53;obtain⟨c0,c1,c2,c3,c4,c5,c6,c7,c8,c9,c10,c11⟩:=hcell wr HBW.out kk hlt;have KA1:=uZ (KA.out kk hlt HAM.out);have HNX1:=uZ (HNX.out kk hlt HAM.out);have HST1:=uZ (HST.out kk hlt HAM.out);clear hcell HST HNX KA HEN;generalize (bF (l.take kk) (aG (l.take kk)).1 l[kk]).2=AR at KA1 HNX1 HST1;generalize l[kk]=y at c0 c1 c2 c3 c4 c5 c6 c7 c8 c9 c10 c11 KA1;obtain⟨y0,y1,y2,y3,y4,y5,y6,y7,y8,y9,y10,y11⟩:=y;unfold Opn.agg at KA1;dsimp only at c0 c1 c2 c3 c4 c5 c6 c7 c8 c9 c10 c11 KA1;obtain⟨i9,n9⟩:=AR;dsimp only at KA1 HNX1 HST1;have HSS:=uZ (fun W (g:aA wr W)=>(⟨uQ g c0,uQ g c1,uQ g c2,uQ g c3,uQ g c4,uQ g c5,uQ g c6,uQ g c7,uQ g c8,uQ g c9,uQ g c10,uQ g c11,g⟩:W.cell? ⟨b,off+kk*12,none⟩=some (.int .i64 y0)∧W.cell? ⟨b,off+kk*12+1,none⟩=some (.int .i64 y1)∧W.cell? ⟨b,off+kk*12+2,none⟩=some (.int .i64 y2)∧W.cell? ⟨b,off+kk*12+3,none⟩=some (.int .i64 y3)∧W.cell? ⟨b,off+kk*12+4,none⟩=some (.int .i64 y4)∧W.cell? ⟨b,off+kk*12+5,none⟩=some (.int .i64 y5)∧W.cell? ⟨b,off+kk*12+6,none⟩=some (.int .i64 y6)∧W.cell? ⟨b,off+kk*12+7,none⟩=some (.string y7)∧W.cell? ⟨b,off+kk*12+8,none⟩=some (.string y8)∧W.cell? ⟨b,off+kk*12+9,none⟩=some (.int .i64 y9)∧W.cell? ⟨b,off+kk*12+10,none⟩=some (.int .i64 y10)∧W.cell? ⟨b,off+kk*12+11,none⟩=some (.int .i64 y11)∧aA wr W));go_wp2_with fail;go_cut [5,6] from 13 to 23 (fun s5 s6 wx=>bBl n9 wr s6 wx)
   case first =>
    go_region_held3 (fun W=>W.cell? ⟨b,off+kk*12,none⟩=some (.int .i64 y0)∧W.cell? ⟨b,off+kk*12+1,none⟩=some (.int .i64 y1)∧W.cell? ⟨b,off+kk*12+2,none⟩=some (.int .i64 y2)∧W.cell? ⟨b,off+kk*12+3,none⟩=some (.int .i64 y3)∧W.cell? ⟨b,off+kk*12+4,none⟩=some (.int .i64 y4)∧W.cell? ⟨b,off+kk*12+5,none⟩=some (.int .i64 y5)∧W.cell? ⟨b,off+kk*12+6,none⟩=some (.int .i64 y6)∧W.cell? ⟨b,off+kk*12+7,none⟩=some (.string y7)∧W.cell? ⟨b,off+kk*12+8,none⟩=some (.string y8)∧W.cell? ⟨b,off+kk*12+9,none⟩=some (.int .i64 y9)∧W.cell? ⟨b,off+kk*12+10,none⟩=some (.int .i64 y10)∧W.cell? ⟨b,off+kk*12+11,none⟩=some (.int .i64 y11)∧aA wr W) (refine HSS.out _ b_13) (first|(go_at_call 43;(with_reducible refine(KA1.out _ (HBW.out.trans b_11)).mono ?_);rintro e w5 ⟨rfl,gq⟩;have GZ:=uZ (show aA wr w5 from uY b_11 gq);clear gq))
    all_goals go_wp2_with fail
    all_goals go_meet
    all_goals exact⟨rfl,GZ.out⟩
   case rest =>
    obtain⟨rfl,hG⟩:=hcut;have HG2:=uZ (HBW.out.trans hG);clear hG HSS c0 c1 c2 c3 c4 c5 c6 c7 c8 c9 c10 c11;by_cases hn:n9=0
    case neg =>
     have hb:(n9 != 0)=true:=by simpa using hn
     have hres:=HST1.out hn;subst hres;clear hn;go_wp2;refine bodyPost_ret (v:=.tuple #[.int .i64 kk,.int .i64 n9]) (by simp[results,Tryz.results16,go_sem]) rfl ⟨rfl,HG2.out⟩
    case pos =>
     subst hn;have hb:=h_218;have HA2:=uZ (HNX1.out rfl);clear HNX1 HST1;go_wp2;go_roundg (l.length-(kk+1))
     case measure=>omega
     case rel=>exact⟨kk+1,by omega,by omega,by go_num,(show Aside _ from HA2.out),(show Aside _ from HG2.out)⟩
theorem jI (l:List Opn) (hm:∀ x∈l,x.mark.size≤100) (hlen:l.length<1000000) (lv:Value) (w:World) (hv:SlO w lv l):Calls Tryz.prog 45 #[lv] w fun e w'=>e=.returned (.bool ((cS l).2.2 == 0))∧aA w w':=by
 have K:=uZ (zN l hm hlen lv w hv);obtain⟨A,n,rfl,-⟩:=hv.open_;generalize (cS l).2=R at K ⊢;obtain⟨i,e⟩:=R;dsimp only at K ⊢;clear hv hm hlen;go_enter Tryz.func45,Tryz.ntmps45;go_wp2_with fail;refine K.out.mono ?_;rintro e w1 ⟨rfl,g⟩;have HG:=uZ g;clear g;dsimp only;go_wp2;go_ret;exact⟨rfl,HG.out⟩
theorem c_128 {p:Prop} (h:p:=by
 rw[h2] at h1;simpa [Opn.cells] using h1
):p:=h
theorem aDo (l:List Opn) (p:Opn→Bool) (gf:Nat) (lb:Array Value) (eg:∀ args w,(callFunc gf args).run Tryz.prog w=.ok (.enter gf args) w) (base:Nat) (v:Value) (w:World) (hbase:base≤w.heap.size)
  (hown:w.ownsRow base 26 12 v l.length (l.flatMap Opn.cells))
  (hp:∀ W x,Below base w W→x∈l→Calls Tryz.prog gf (#[x.agg]++lb) W fun e w'=>e=.returned (.bool (p x))∧aA W w') :
  Calls Tryz.prog 36 #[v,.func (.func gf) #[] lb] w fun e w'=>∃ v',e=.returned v'∧w'.ownsRow base 26 12 v' (l.filter fun x=>!p x).length ((l.filter fun x=>!p x).flatMap Opn.cells)∧Below base w w':=by
 have hix:=vH l p gf lb eg v w (Rd.of_own hown) (fun W x hW hx=>hp W x (hW.below.mono hbase) hx);by_cases hany:l.any p=true
 case neg =>
  simp only [Bool.not_eq_true] at hany;have hid:=h_61;have hm:=h_76;rw[hid];rw[hm] at hix;have HX:=uZ hix;have HO:=uZ hown;generalize l.flatMap Opn.cells=cs at HO ⊢;clear hix hown hp hid hm hany;go_enter Tryz.func36,Tryz.ntmps36;go_wp2_with (first|(go_at_call 59;refine HX.out.mono ?_;rintro e w1 ⟨rfl,hg⟩))
  go_ret;exact⟨v,rfl,aZ HO.out hg,hg.below.mono hbase⟩
 case pos =>
  obtain⟨m,hm,hpm,hbef⟩:=mD p l hany;have he:lL p l=(m:Int):=eW p l m hm hpm hbef;rw[he] at hix;obtain⟨g,cap,hv,hbg,hglt,hcap⟩:=fH hown b_53;subst hv;have hcm:cap≤maxLen:=sV hown;unfold maxLen at hcm;have DI0:dE 12 Opn.cells l (fun x=>!p x) (l.flatMap Opn.cells) m (m+1):=dE.start (f:=Opn.cells) (fun _=>rfl) m hm (by simp[hpm]) (fun t ht h=>by simp[hbef t ht h]);have HX:=uZ hix;have HO:=uZ hown;have HP:=uZ hp;have HD:=uZ DI0;have hneg:((m:Int) == -1)=false:=beq_eq_false_iff_ne.2 b_53;clear hix hown hp DI0 he hpm hbef hany;go_enter Tryz.func36,Tryz.ntmps36;go_wp2_with (first|(go_at_call 59;refine HX.out.mono ?_;rintro e w1 ⟨rfl,hg⟩))
  go_loopg [5,6] l.length (fun gg s5 s6 wr=>∃ ii jj:Nat,ii<jj∧jj≤l.length∧l.length-jj≤gg∧s5=.int .i64 ii∧s6=.int .i64 jj∧Aside (Below base w wr)∧Aside (∃ ds,wr.ownsRow base 26 12 (.slice (some ⟨g,0,none⟩) l.length cap) l.length ds∧dE 12 Opn.cells l (fun x=>!p x) ds ii jj))
  case atStart=>exact⟨m,m+1,by omega,by omega,by omega,rfl,by go_num,hg.below.mono hbase,_,aZ HO.out hg,HD.out⟩
  case round =>
   obtain⟨ii,jj,hij,hjl,hgk,rfl,rfl,BW,hds⟩:=hrel;obtain⟨ds,ho,DI0⟩:=hds.out;have DI:=uZ DI0;clear hds DI0;by_cases hlt:jj<l.length
   ·have hltz:(jj:Int)<(l.length:Int):=by omega
    have c0:wr.cell? ⟨g,jj*12,none⟩=some (.int .i64 l[jj].id):=by
     have h1:=ho.cellAt (jj*12+0) b_53;have h2:=dE.at_ (f:=Opn.cells) DI.out (fun _=>rfl) hlt 0 b_53;exact c_128
    have c1:wr.cell? ⟨g,jj*12+1,none⟩=some (.int .i64 l[jj].day):=by
     have h1:=ho.cellAt (jj*12+1) b_53;have h2:=dE.at_ (f:=Opn.cells) DI.out (fun _=>rfl) hlt 1 b_53;exact c_128
    have c2:wr.cell? ⟨g,jj*12+2,none⟩=some (.int .i64 l[jj].kind):=by
     have h1:=ho.cellAt (jj*12+2) b_53;have h2:=dE.at_ (f:=Opn.cells) DI.out (fun _=>rfl) hlt 2 b_53;exact c_128
    have c3:wr.cell? ⟨g,jj*12+3,none⟩=some (.int .i64 l[jj].unit):=by
     have h1:=ho.cellAt (jj*12+3) b_53;have h2:=dE.at_ (f:=Opn.cells) DI.out (fun _=>rfl) hlt 3 b_53;exact c_128
    have c4:wr.cell? ⟨g,jj*12+4,none⟩=some (.int .i64 l[jj].parent):=by
     have h1:=ho.cellAt (jj*12+4) b_53;have h2:=dE.at_ (f:=Opn.cells) DI.out (fun _=>rfl) hlt 4 b_53;exact c_128
    have c5:wr.cell? ⟨g,jj*12+5,none⟩=some (.int .i64 l[jj].before):=by
     have h1:=ho.cellAt (jj*12+5) b_53;have h2:=dE.at_ (f:=Opn.cells) DI.out (fun _=>rfl) hlt 5 b_53;exact c_128
    have c6:wr.cell? ⟨g,jj*12+6,none⟩=some (.int .i64 l[jj].level):=by
     have h1:=ho.cellAt (jj*12+6) b_53;have h2:=dE.at_ (f:=Opn.cells) DI.out (fun _=>rfl) hlt 6 b_53;exact c_128
    have c7:wr.cell? ⟨g,jj*12+7,none⟩=some (.string l[jj].title):=by
     have h1:=ho.cellAt (jj*12+7) b_53;have h2:=dE.at_ (f:=Opn.cells) DI.out (fun _=>rfl) hlt 7 b_53;exact c_128
    have c8:wr.cell? ⟨g,jj*12+8,none⟩=some (.string l[jj].mark):=by
     have h1:=ho.cellAt (jj*12+8) b_53;have h2:=dE.at_ (f:=Opn.cells) DI.out (fun _=>rfl) hlt 8 b_53;exact c_128
    have c9:wr.cell? ⟨g,jj*12+9,none⟩=some (.int .i64 l[jj].office):=by
     have h1:=ho.cellAt (jj*12+9) b_53;have h2:=dE.at_ (f:=Opn.cells) DI.out (fun _=>rfl) hlt 9 b_53;exact c_128
    have c10:wr.cell? ⟨g,jj*12+10,none⟩=some (.int .i64 l[jj].acc):=by
     have h1:=ho.cellAt (jj*12+10) b_53;have h2:=dE.at_ (f:=Opn.cells) DI.out (fun _=>rfl) hlt 10 b_53;exact c_128
    have c11:wr.cell? ⟨g,jj*12+11,none⟩=some (.int .i64 l[jj].num):=by
     have h1:=ho.cellAt (jj*12+11) b_53;have h2:=dE.at_ (f:=Opn.cells) DI.out (fun _=>rfl) hlt 11 b_53;exact c_128
    have hcall:=HP.out (wr.alloc (.cells #[.int .i64 l[jj].id,.int .i64 l[jj].day,.int .i64 l[jj].kind,.int .i64 l[jj].unit,.int .i64 l[jj].parent,.int .i64 l[jj].before,.int .i64 l[jj].level,.string l[jj].title,.string l[jj].mark,.int .i64 l[jj].office,.int .i64 l[jj].acc,.int .i64 l[jj].num] 26)) l[jj] (BW.out.alloc (Nat.le_trans hbase BW.out.size) _) (List.getElem_mem hlt);have HOr:=uZ ho;have Hlt:=uZ hlt;generalize hy:l[jj]=y at c0 c1 c2 c3 c4 c5 c6 c7 c8 c9 c10 c11 hcall;have B:Aside (l[jj]=y):=hy;clear hy ho;unfold Opn.agg at hcall
    cases hq:p y with
    | true =>
     have Hq:Aside (p y=true):=hq;rw[hq] at hcall;go_wp2_with (go_at_fn gf;refine hcall.mono ?_;rintro e w' ⟨rfl,hb'⟩)
     go_roundg (l.length-(jj+1))
     case measure=>omega
     case rel=>exact⟨ii,jj+1,by omega,by omega,by omega,rfl,by go_num,(show Aside _ from BW.out.trans ((((uX wr).alloc _).trans hb').below.mono (Nat.le_trans hbase BW.out.size))),(show Aside _ from⟨ds,aZ HOr.out (((uX wr).alloc _).trans hb'),DI.out.skip Hlt.out (by have h:l[jj]'Hlt.out=y:=B.out;rw[h,Hq.out];rfl)⟩)⟩
    | false =>
     have Hq:Aside (p y=false):=hq;rw[hq] at hcall;go_wp2_with fail;refine hcall.mono ?_;rintro e w' ⟨rfl,hb'⟩;have ho':=aZ HOr.out (((uX wr).alloc _).trans hb');have d0:w'.cell? ⟨wr.heap.size,0,none⟩=some (.int .i64 y.id):=(hb'.cell (p:=⟨wr.heap.size,0,none⟩) b_54).trans b_54;have d1:w'.cell? ⟨wr.heap.size,1,none⟩=some (.int .i64 y.day):=(hb'.cell (p:=⟨wr.heap.size,1,none⟩) b_54).trans b_54;have d2:w'.cell? ⟨wr.heap.size,2,none⟩=some (.int .i64 y.kind):=(hb'.cell (p:=⟨wr.heap.size,2,none⟩) b_54).trans b_54;have d3:w'.cell? ⟨wr.heap.size,3,none⟩=some (.int .i64 y.unit):=(hb'.cell (p:=⟨wr.heap.size,3,none⟩) b_54).trans b_54;have d4:w'.cell? ⟨wr.heap.size,4,none⟩=some (.int .i64 y.parent):=(hb'.cell (p:=⟨wr.heap.size,4,none⟩) b_54).trans b_54;have d5:w'.cell? ⟨wr.heap.size,5,none⟩=some (.int .i64 y.before):=(hb'.cell (p:=⟨wr.heap.size,5,none⟩) b_54).trans b_54;have d6:w'.cell? ⟨wr.heap.size,6,none⟩=some (.int .i64 y.level):=(hb'.cell (p:=⟨wr.heap.size,6,none⟩) b_54).trans b_54;have d7:w'.cell? ⟨wr.heap.size,7,none⟩=some (.string y.title):=(hb'.cell (p:=⟨wr.heap.size,7,none⟩) b_54).trans b_54;have d8:w'.cell? ⟨wr.heap.size,8,none⟩=some (.string y.mark):=(hb'.cell (p:=⟨wr.heap.size,8,none⟩) b_54).trans b_54;have d9:w'.cell? ⟨wr.heap.size,9,none⟩=some (.int .i64 y.office):=(hb'.cell (p:=⟨wr.heap.size,9,none⟩) b_54).trans b_54;have d10:w'.cell? ⟨wr.heap.size,10,none⟩=some (.int .i64 y.acc):=(hb'.cell (p:=⟨wr.heap.size,10,none⟩) b_54).trans b_54;have d11:w'.cell? ⟨wr.heap.size,11,none⟩=some (.int .i64 y.num):=(hb'.cell (p:=⟨wr.heap.size,11,none⟩) b_54).trans b_54;obtain⟨u0,_,hu0⟩:=eV ho' (ii*12+0) b_53;have hf0:=ho'.frozenAt (ii*12+0);obtain⟨u1,_,hu1⟩:=eV ho' (ii*12+1) b_53;have hf1:=ho'.frozenAt (ii*12+1);obtain⟨u2,_,hu2⟩:=eV ho' (ii*12+2) b_53;have hf2:=ho'.frozenAt (ii*12+2);obtain⟨u3,_,hu3⟩:=eV ho' (ii*12+3) b_53;have hf3:=ho'.frozenAt (ii*12+3);obtain⟨u4,_,hu4⟩:=eV ho' (ii*12+4) b_53;have hf4:=ho'.frozenAt (ii*12+4);obtain⟨u5,_,hu5⟩:=eV ho' (ii*12+5) b_53;have hf5:=ho'.frozenAt (ii*12+5);obtain⟨u6,_,hu6⟩:=eV ho' (ii*12+6) b_53;have hf6:=ho'.frozenAt (ii*12+6);obtain⟨u7,_,hu7⟩:=eV ho' (ii*12+7) b_53;have hf7:=ho'.frozenAt (ii*12+7);obtain⟨u8,_,hu8⟩:=eV ho' (ii*12+8) b_53;have hf8:=ho'.frozenAt (ii*12+8);obtain⟨u9,_,hu9⟩:=eV ho' (ii*12+9) b_53;have hf9:=ho'.frozenAt (ii*12+9);obtain⟨u10,_,hu10⟩:=eV ho' (ii*12+10) b_53;have hf10:=ho'.frozenAt (ii*12+10);obtain⟨u11,_,hu11⟩:=eV ho' (ii*12+11) b_53;have hf11:=ho'.frozenAt (ii*12+11);simp only [Nat.add_zero] at hu0 hf0;have HO':=uZ ho';clear ho';go_wp2;obtain⟨ds1,hD1,hG1,hL1,hA1,hB1⟩:=jA (Opn.cells y) (ii*12) w' ds HO'.out;go_roundg (l.length-(jj+1))
     case measure=>omega
     case rel =>
      have hyj:l[jj]'Hlt.out=y:=B.out;have hbw:Below base w w':=BW.out.trans ((((uX wr).alloc _).trans hb').below.mono (Nat.le_trans hbase BW.out.size));refine⟨ii+1,jj+1,by omega,by omega,by omega,by go_num,by go_num,(show Aside _ from ?_),(show Aside _ from⟨ds1,?_,?_⟩)⟩
      ·exact hbw.setCell (p:=⟨g,ii*12,none⟩) hbg _ |>.setCell (p:=⟨g,ii*12+1,none⟩) hbg _ |>.setCell (p:=⟨g,ii*12+2,none⟩) hbg _ |>.setCell (p:=⟨g,ii*12+3,none⟩) hbg _ |>.setCell (p:=⟨g,ii*12+4,none⟩) hbg _ |>.setCell (p:=⟨g,ii*12+5,none⟩) hbg _ |>.setCell (p:=⟨g,ii*12+6,none⟩) hbg _ |>.setCell (p:=⟨g,ii*12+7,none⟩) hbg _ |>.setCell (p:=⟨g,ii*12+8,none⟩) hbg _ |>.setCell (p:=⟨g,ii*12+9,none⟩) hbg _ |>.setCell (p:=⟨g,ii*12+10,none⟩) hbg _ |>.setCell (p:=⟨g,ii*12+11,none⟩) hbg _
      ·simpa [Opn.cells,World.setCells,Nat.add_assoc] using hD1
      ·exact dE.keep (f:=Opn.cells) DI.out (fun _=>rfl) Hlt.out (by rw[hyj,Hq.out];rfl) hL1 (by rw[hyj];exact hA1) (by rw[hyj];exact hB1)
   ·have hje:jj=l.length:=by omega
    subst hje;have hii:¬ cap=ii:=by omega
    have hgt:(ii:Int)≤(l.length:Int):=by omega
    obtain⟨w2,ds2,hrun,ho2,hg2,ha2⟩:=iI (P:=Tryz.prog) wr 22 26 0 (.agg #[.int .i64 0,.int .i64 0,.int .i64 0,.int .i64 0,.int .i64 0,.int .i64 0,.int .i64 0,.string ⟨#[]⟩,.string ⟨#[]⟩,.int .i64 0,.int .i64 0,.int .i64 0]) 12 Tryz.underlying22 Tryz.zeroValue26 rfl b_53 (by simp[Value.cells,Value.oneCell']) ho ii (cap-ii) hij;have hrun':∀ ty,(Builtin.clear_ #[22] ty #[.slice (some ⟨g,ii*12,none⟩) (l.length-ii) (cap-ii)]).run Tryz.prog wr=.ok (.tuple #[]) w2:=fun _=>hrun
    have Ho2:=uZ ho2;have Ha2:=uZ ha2;clear ho2 ha2 hrun ho;go_wp2;go_ret;obtain⟨e1,e2⟩:=dE.done (f:=Opn.cells) DI.out (fun _=>rfl) Ha2.out;have hc2:=wU Ho2.out ii b_53;rw[e1] at hc2;refine⟨_,rfl,?_,Below.grown BW.out hg2 (Nat.le_trans hbase BW.out.size) (fun k hk=>by cases hk;exact hbg)⟩;rw[← e2];exact hc2
end Go.Proofs.YtdochkemaiokfaaGreat

namespace Go.Proofs.YtdochkemaiokfaaGreat
open Go.RowKit Go.Maps
theorem c_54 {p:Prop} (h:p:=by
 clear ha;go_wp2;obtain⟨q0,q1⟩:=aK (v0:=(.slice none 0 0)) (v1:=(.slice none 0 0)) c0 c1;refine bodyPost_ret (v:=.tuple #[.agg #[.slice none 0 0,.slice none 0 0],.int .i64 2]) (by simp[results,Tryz.results24,go_sem,q0,q1]) rfl ?_;exact bU.none ((HG.out.setCell hlo _).setCell hlo _)
):p:=h
theorem bEb (DB:Nat) (d:Int) (x:Opn) (w:World) (h:w.cell? ⟨DB,0,none⟩=some (.int .i64 d)):Calls Tryz.prog 50 (#[x.agg] ++ #[.pointer (some ⟨DB,0,none⟩)]) w fun e w'=>e=.returned (.bool (decide (d<x.day)))∧aA w w':=by
 obtain⟨o0,o1,o2,o3,o4,o5,o6,o7,o8,o9,o10,o11⟩:=x;unfold Opn.agg;dsimp only;have h3:=h_23;go_enter Tryz.func50,Tryz.ntmps50;exact c_127
theorem aDm:∀ args w,(callFunc 50 args).run Tryz.prog w=.ok (.enter 50 args) w:=enters_of Tryz.func50 (by kernel_rfl) rfl
noncomputable def atR (l:List Opn) (d:Int):Tr × Int:=if (cS l).2.2=0 then(if d<0∨1048575<d then(⟨[],[]⟩,2) else((aG (l.filter fun o=>!decide (d<o.day))).1,0)) else(⟨[],[]⟩,1)
theorem uAt (l:List Opn) (d:Int) (hwf:∀ i (h:i<l.length),WfO l[i]) (lv:Value) (w:World) (hE:Env w) (hv:SlO w lv l) (hlen:l.length≤1000000):Calls Tryz.prog 24 #[lv,.int .i64 d] w (bU (atR l d) w):=by
 have K:=uZ (fun W (g:aA w W)=>yU l hwf lv W (hE.mono g) (hv.mono g) hlen);have KC:=uZ (fun W (g:aA w W)=>vR l lv W (hv.mono g) b_53);have KD:=uZ (fun v DB base W (h1:base≤W.heap.size) ho (hb:DB<base) (hc:W.cell? ⟨DB,0,none⟩=some (.int .i64 d))=>aDo l (fun o=>decide (d<o.day)) _ #[.pointer (some ⟨DB,0,none⟩)] aDm base v W h1 ho (fun W2 x hg _=>bEb DB d x W2 ((Below.cell hg hb).trans hc)))
 have KR:=uZ (fun v W (g:aA w W) h=>aJh (l.filter fun o=>!decide (d<o.day)) (fun i hi=>by
  obtain⟨j,hj,e⟩:=List.mem_iff_getElem.1 (List.mem_filter.1 (List.getElem_mem hi)).1;rw[← e]
  exact hwf j hj) v W (hE.mono g) h (Nat.le_trans (List.length_filter_le _ _) hlen))
 obtain⟨A,c,rfl,-⟩:=hv.open_;have HR0:atR l d=if (cS l).2.2=0 then(if d<0∨1048575<d then(⟨[],[]⟩,2) else((aG (l.filter fun o=>!decide (d<o.day))).1,0)) else(⟨[],[]⟩,1):=rfl
 unfold aOo at K;unfold rH at KR;generalize atR l d=RES at HR0 ⊢;generalize hLF:(l.filter fun o=>!decide (d<o.day))=LF at HR0 KR KD;generalize aG LF=RP at KR HR0;obtain⟨T1,i1,n1⟩:=RP;generalize (cS l).2=R at K HR0;obtain⟨i,n0⟩:=R;dsimp only at K HR0 KR;have HQ0:=uZ HR0;have HB:=uZ (aO (w.alloc (.cells #[.int .i64 d] 3)) (.cells #[.slice none 0 0,.slice none 0 0] 43));have HDB:=uZ (aD ((uX _).alloc (.cells #[.slice none 0 0,.slice none 0 0] 43)) (aO w (.cells #[.int .i64 d] 3)));clear HR0 hwf hE hv hLF;go_enter Tryz.func24,Tryz.ntmps24;go_wp2_with fail;refine(K.out _ (((uX w).alloc _).alloc _)).mono ?_;rintro e w2 ⟨rfl,g⟩;have HB2:=uZ (aD g HB.out);have HD2:=uZ (aD g HDB.out);have HG:=uZ (show aA w w2 from uY (((uX w).alloc _).alloc _) g);have hTB:(w.alloc (.cells #[.int .i64 d] 3)).heap.size=w.heap.size+1:=World.size_alloc _ _;have hlo:w.heap.size≤w.heap.size+1:=by omega
 rw[hTB] at HB2;clear HB HDB g hTB;dsimp only;by_cases hn:n0=0
 case neg =>
  have hbn:=h_212;obtain rfl:=HQ0.out.trans (if_neg hn);clear HQ0 hn;have c0:w2.cell? ⟨w.heap.size+1,0,none⟩=some (.slice none 0 0):=aC HB2.out rfl;have c1:w2.cell? ⟨w.heap.size+1,1,none⟩=some (.slice none 0 0):=aC HB2.out rfl;have z0:w2.frozen? ⟨w.heap.size+1,0,none⟩=false:=aS HB2.out;have z1:w2.frozen? ⟨w.heap.size+1,1,none⟩=false:=aS HB2.out;go_wp2;obtain⟨q0,q1⟩:=aK (v0:=(.slice none 0 0)) (v1:=(.slice none 0 0)) c0 c1;refine bodyPost_ret (v:=.tuple #[.agg #[.slice none 0 0,.slice none 0 0],.int .i64 1]) (by simp[results,Tryz.results24,go_sem,q0,q1]) rfl ?_;exact bU.none ((HG.out.setCell hlo _).setCell hlo _)
 case pos =>
  subst hn;have hbn:=h_218;have HQ1:=uZ (HQ0.out.trans (if_pos rfl));clear HQ0;have d0:w2.cell? ⟨w.heap.size,0,none⟩=some (.int .i64 d):=aC HD2.out rfl;by_cases hd:d<0∨1048575<d
  case pos =>
   obtain rfl:=HQ1.out.trans (if_pos hd);clear HQ1;have c0:w2.cell? ⟨w.heap.size+1,0,none⟩=some (.slice none 0 0):=aC HB2.out rfl;have c1:w2.cell? ⟨w.heap.size+1,1,none⟩=some (.slice none 0 0):=aC HB2.out rfl;have z0:w2.frozen? ⟨w.heap.size+1,0,none⟩=false:=aS HB2.out;have z1:w2.frozen? ⟨w.heap.size+1,1,none⟩=false:=aS HB2.out;have HD:=uZ hd;clear hd;by_cases ha:d<0
   case pos =>
    have hb1:decide (d<0)=true:=decide_eq_true ha;exact c_54
   case neg =>
    have hb1:decide (d<0)=false:=decide_eq_false ha;have hb2:decide (1048575<d)=true:=decide_eq_true (by have:=HD.out;omega);exact c_54
  case neg =>
   obtain rfl:=HQ1.out.trans (if_neg hd);have hb1:decide (d<0)=false:=decide_eq_false b_53;have hb2:decide (1048575<d)=false:=decide_eq_false b_53;clear HQ1 hd;go_wp2_with fail;refine(KC.out _ HG.out).mono ?_;rintro e w3 ⟨v3,rfl,ho,g3⟩;have HG3:=uZ (HG.out.trans g3);have HB3:=uZ (aD g3 HB2.out);have d3:=uQ g3 d0;have HO:=uZ ho;have HSZ:=uZ g3.size;have HLT:=uZ (show w.heap.size<w2.heap.size from(Array.getElem?_eq_some_iff.1 HD2.out).1);have HTB:=uZ (show w.heap.size+1<w2.heap.size from(Array.getElem?_eq_some_iff.1 HB2.out).1);clear ho g3 d0;dsimp only;go_wp2_with fail;refine(KD.out _ _ _ _ HSZ.out HO.out HLT.out d3).mono ?_;rintro e w4 ⟨v4,rfl,ho,b4⟩;have HG4:=uZ (show aA w w4 from Below.trans HG3.out (b4.mono HG.out.size));have HB4:=uZ (show w4.heap[w.heap.size+1]? = some (.cells #[.slice none 0 0,.slice none 0 0] 43 (0,0)) from(b4.block _ HTB.out).trans HB3.out);have HS4:=uZ (show SlO w4 v4 LF from Rd.of_own ho);clear ho b4 d3;dsimp only;go_wp2_with fail;refine(KR.out _ _ HG4.out HS4.out).mono ?_;rintro e w5 ⟨rv,bv,rfl,ht,g5⟩;obtain⟨RA,ra,hRA,-⟩:=SlI.open_ (v:=rv) (l:=T1.roots) (aEr ht);subst hRA;obtain⟨RB,rb,hRB,-⟩:=bQ.open_ (v:=bv) (l:=T1.brs) (oR ht);subst hRB;have gx:=(uX w5).alloc (.cells #[.slice RA T1.roots.length ra,.slice RB T1.brs.length rb] 43);have HXX:=aO w5 (.cells #[.slice RA T1.roots.length ra,.slice RB T1.brs.length rb] 43);obtain⟨wE,hwE⟩:∃ wE,w5.alloc (.cells #[.slice RA T1.roots.length ra,.slice RB T1.brs.length rb] 43)=wE:=⟨_,rfl⟩
   rw[hwE] at gx HXX;have HGE:=uZ (uY HG4.out (g5.trans gx));have HBE:=uZ (aD (g5.trans gx) HB4.out);have HTE:=uZ (ht.mono gx);have x0:wE.cell? ⟨w5.heap.size,0,none⟩=some (.slice RA T1.roots.length ra):=aC HXX rfl;have x1:wE.cell? ⟨w5.heap.size,1,none⟩=some (.slice RB T1.brs.length rb):=aC HXX rfl;have c0:wE.cell? ⟨w.heap.size+1,0,none⟩=some (.slice none 0 0):=aC HBE.out rfl;have c1:wE.cell? ⟨w.heap.size+1,1,none⟩=some (.slice none 0 0):=aC HBE.out rfl;have z0:wE.frozen? ⟨w.heap.size+1,0,none⟩=false:=aS HBE.out;have z1:wE.frozen? ⟨w.heap.size+1,1,none⟩=false:=aS HBE.out;clear ht g5 gx HXX;dsimp only;go_wp2;obtain⟨q0,q1⟩:=aK (v0:=(.slice RA T1.roots.length ra)) (v1:=(.slice RB T1.brs.length rb)) c0 c1;refine bodyPost_ret (v:=.tuple #[.agg #[.slice RA T1.roots.length ra,.slice RB T1.brs.length rb],.int .i64 0]) (by simp[results,Tryz.results24,go_sem,q0,q1]) rfl ?_;exact⟨_,_,rfl,HTE.out.setT HBE.out,(HGE.out.setCell hlo _).setCell hlo _⟩
end Go.Proofs.YtdochkemaiokfaaGreat
namespace Go.Proofs.YtdochkemaiokfaaGreat
open Go.RowKit Go.Shelf
attribute [local go_sem] Oper.semAt_some
theorem zC {W:World} {N:Nat} {e:TypeId} {size:Nat} {v:Value} {n:Nat} {xs:List Value} (h:W.ownsRow N e size v n xs):∀ r,v.ownBlock=some r→N≤r∧∃ cs t fr,W.heap[r]? = some (.cells cs t fr):=by
 intro r hr;rcases h.2 with ⟨rfl,-⟩|⟨g,cap,cur,rfl,hb,hgb,-⟩
 ·cases hr
 ·cases hr
  exact⟨hb,_,_,_,hgb⟩
theorem wG {W W':World} {N:Nat} {e:TypeId} {size:Nat} {v:Value} {n:Nat} {xs:List Value} {row:Option Nat} (h:W.ownsRow N e size v n xs) (hg:W.grownBy W' row) (hr:∀ r,row=some r→r<N∨∀ o,W.heap[r]? = some o→o.isCells=false):W'.ownsRow N e size v n xs:=by
 refine h.kept hg ?_
 cases hb:v.ownBlock with
 | none=>exact .inl rfl
 | some g =>
  refine .inr fun k=>?_
  obtain⟨h1,cs,t,fr,h2⟩:=zC h g hb;rcases hr g k.symm with h3|h3
  ·omega
  ·have:=h3 _ h2
   cases this
theorem KpS.row {n₀ B:Nat} {X:Nat→Prop} {W W':World} {row:Option Nat} (hn:n₀≤B) (hB:B≤W.heap.size) (hg:W.grownBy W' row) (hr:∀ r,row=some r→B≤r∧∃ cs t fr,W.heap[r]? = some (.cells cs t fr)):KpS n₀ B X W W':=by
 refine⟨(Below.refl n₀ W).grown hg (Nat.le_trans hn hB) (fun k e=>Nat.le_trans hn (hr k e).1),fun k o hk _ ho _=>?_,fun k es c ho=>?_⟩
 ·rw[hg.block k b_53 (fun e=>by have:=(hr k e.symm).1;omega)]
  exact ho
 ·rw[hg.block k (Array.getElem?_eq_some_iff.1 ho).1 (fun e=>by
   obtain⟨-,cs,t,fr,h2⟩:=hr k e.symm;rw[ho] at h2
   cases h2)]
  exact ho
theorem aHk {W W':World} {row:Option Nat} (hg:W.grownBy W' row) (hr:∀ r,row=some r→∃ cs t fr,W.heap[r]? = some (.cells cs t fr)):KeepsOthers W W' :=
 ⟨hg.size,fun k o ho hc=>by
  rw[hg.block k (Array.getElem?_eq_some_iff.1 ho).1 (fun e=>by
   obtain⟨cs,t,fr,h2⟩:=hr k e.symm;rw[ho] at h2;cases h2
   cases hc)]
  exact ho⟩
structure aUa (w:World) (OB N:Nat) (xs:List Int) (W:World):Prop where
 g:aA w W
 row:∃ v,Boxed W OB 38 v∧W.ownsRow N 3 1 v xs.length (xs.map (Value.int .i64))
theorem aUa.turn {w W W':World} {OB N:Nat} {xs:List Int} {row:Option Nat} (h:aUa w OB N xs W) (h1:w.heap.size≤OB) (h2:OB<N) (hg:W.grownBy W' row) (hr:∀ r,row=some r→N≤r∧∀ o,W.heap[r]? = some o→o.isCells=false):aUa w OB N xs W':=by
 obtain⟨v,hb,ho⟩:=h.row;exact⟨Below.grown h.g hg h.g.size (fun k e=>by have:=(hr k e).1;omega),v,bY hg hb (fun r e=>by have:=(hr r e).1;omega),wG ho hg (fun r e=>.inr (hr r e).2)⟩
theorem aUa.put {w W W1:World} {OB N:Nat} {xs:List Int} {x:Int} {v v':Value} {ob:Obj} (h:aA w W) (hb:Boxed W OB 38 v) (ho:W.ownsRow N 3 1 v xs.length (xs.map (Value.int .i64))) (h1:w.heap.size≤OB) (h2:OB<N) (h3:N≤W.heap.size) (ho':W1.ownsRow N 3 1 v' (xs.length+1) (xs.map (Value.int .i64)++[Value.int .i64 x])) (hg:(W.alloc ob).grownBy W1 v.ownBlock) :
  Boxed W1 OB 38 v∧aUa w OB N (xs++[x]) (W1.setCell ⟨OB,0,none⟩ v')∧KpS w.heap.size N (fun k=>k=OB) W (W1.setCell ⟨OB,0,none⟩ v')∧KeepsOthers W (W1.setCell ⟨OB,0,none⟩ v'):=by
 have ga:aA W (W.alloc ob):=(uX W).alloc _;have hs:=ga.size;have hr:=zC (aZ ho ga);have hb1:Boxed W1 OB 38 v:=bY hg (aD ga hb) (fun r e=>by have:=(hr r e).1;omega);have g1:aA w W1:=Below.grown (h.trans ga) hg (h.trans ga).size (fun k e=>by have:=(hr k e).1;omega);refine⟨hb1,⟨g1.setCell (p:=⟨OB,0,none⟩) h1 _,v',hb1.set _,?_⟩,?_,?_⟩
 ·rw[List.length_append,List.length_singleton,List.map_append,List.map_singleton]
  exact wG ho' (aAf W1 OB 0 v') (fun r e=>by cases e;exact .inl h2)
 ·exact((KpS.grew b_53 ga).trans (KpS.row b_53 b_53 hg hr)).trans (KpS.set _ h1 (.inl rfl) ⟨_,_,_,hb1⟩)
 ·exact((aFl ga).trans (aHk hg (fun r e=>(hr r e).2))).trans (KeepsOthers.setCell _ _ _)
theorem aQh (l:List Int):l.map (Value.int .i64)=l.flatMap eE:=by
 induction l with
 | nil=>rfl
 | cons a r ih=>rw[List.map_cons,List.flatMap_cons,ih];rfl
noncomputable def lC (l:List Opn):List Int × Int:=if (cS l).2.2=0 then((cN l).map fun p=>p.2.id,0) else([],1)
def aOn (R:List Int × Int) (w:World) (e:Ending) (w':World):Prop:=∃ v,e=.returned (.tuple #[v,.int .i64 R.2])∧SlI w' v R.1∧aA w w'
def bEp (lv:Value) (i:Int) (OB LB:Nat) (x:Int × Opn) (a:Act) (W:World):Prop:=∃ XB,a={ tmps:=#[lv,undef,.slice none 0 0,.int .i64 0,.int .i64 i,.int .i64 0,.pointer (some ⟨OB,0,none⟩),undef,.pointer (some ⟨XB,0,none⟩),.tuple #[.int .i64 i,.int .i64 0],lv,.tuple #[.int .i64 i,.int .i64 0],.int .i64 i,.int .i64 0,.int .i64 0,.bool false,lv,.func (.func 69) #[] #[.pointer (some ⟨LB,0,none⟩)],.int .i64 x.1,x.2.agg,undef,undef,undef,undef,undef,undef],defers:=[] } ∧
 W.heap[XB]? = some (.cells x.2.cells.toArray 26 (0,0))
theorem aNk (l:List Opn):(cN l).length≤l.length:=by
 rw[fU];exact Nat.le_trans (List.length_filter_le _ _) (by simp[vJ])
theorem aEq (l:List Opn) (hwf:∀ i (h:i<l.length),WfO l[i]) (lv:Value) (w:World) (hE:Env w) (hv:SlO w lv l) (hlen:l.length≤1000000):Calls Tryz.prog 20 #[lv] w (aOn (lC l) w):=by
 have K:=yU l hwf lv w hE hv hlen;have KC:=uZ (fun A n c W=>sE A n c W);have KS:=h_155;have HCL:=uZ (Nat.le_trans (aNk l) hlen);obtain⟨A,c,rfl,-⟩:=hv.open_;obtain⟨i0,hi,hz0,hz1,hz2⟩:=info_parts aZt;have HR0:lC l=if (cS l).2.2=0 then((cN l).map fun p=>p.2.id,0) else([],1):=rfl
 unfold aOo at K;generalize lC l=RES at HR0 ⊢;generalize cN l=CI at KS HR0 HCL;generalize (cS l).2=R at K HR0;obtain⟨i,n0⟩:=R;dsimp only at K HR0;have HQ0:=uZ HR0;clear HR0 hv hwf hE;refine(callsIn_wide (n:=9)).1 ?_;refine callsIn_of_wp_marks Tryz.func20 rfl trivial ?_ rfl;simp only [Tryz.ntmps20,List.size_toArray,List.length_cons,List.length_nil,Nat.reduceAdd,Nat.reduceSub,Array.replicate_succ,Array.replicate_zero,List.push_toArray,List.append_toArray,List.nil_append,List.cons_append];refine wpIn_wide.2 ?_;go_wp2_with fail;refine K.mono ?_;rintro e w2 ⟨rfl,g⟩;have HG:=uZ g;clear g K;dsimp only;by_cases hn:n0=0
 case neg =>
  have hbn:=h_212;obtain rfl:=HQ0.out.trans (if_neg hn);clear HQ0 hn;go_wp2;exact⟨.tuple #[.slice none 0 0,.int .i64 1],by simp[results,Tryz.results20,go_sem],_,rfl,SlI.nil _,HG.out⟩
 case pos =>
  subst hn;have hbn:=h_218;obtain rfl:=HQ0.out.trans (if_pos rfl);clear HQ0;go_wp2_with fail;refine(KC.out _ _ _ _).mono ?_;rintro e wl ⟨rfl,hwl⟩;dsimp only;go_wp2_with fail;refine(wpIn_wide (n:=9)).1 ?_
  have hI0:aUa w w2.heap.size (w2.heap.size+1+1) [] wl:=by
   have e0:=aO w2 (.cells #[.slice none 0 0] 38);have g2:aA (w2.alloc (.cells #[.slice none 0 0] 38)) wl:=by rw[← hwl];exact(uX _).alloc _
   exact⟨(HG.out.alloc _).trans g2,_,aD g2 e0,World.ownsRow_nil _ _ _ _⟩
  have hsz:wl.heap.size=w2.heap.size+1+1:=by rw[← hwl];simp only [World.size_alloc]
  have hLx:Boxed wl (w2.heap.size+1) 22 (.slice A l.length c):=by
   have:=Boxed.new (w2.alloc (.cells #[.slice none 0 0] 38)) 22 (.slice A l.length c);rw[hwl] at this;simpa only [World.size_alloc] using this
  simp only [World.size_alloc];clear hwl;have hlo:=HG.out.size;rw[← hsz] at hI0;have hst:=KS.out (fun k=>k=w2.heap.size) wl.heap.size (w2.heap.size+1) 8 wl b_53 b_53 hI0.g hLx;have HB1:=uZ (show w2.heap.size<wl.heap.size by omega);clear hsz;generalize w2.heap.size+1=LB at hst hLx ⊢;generalize w2.heap.size=OB at hI0 hst HB1 hlo ⊢;have HI0:=uZ hI0;have HLO:=uZ hlo;have HN:=uZ (show w.heap.size≤wl.heap.size from hI0.g.size);clear hI0 hlo hLx KS KC HG
  refine nV rfl b_53 (gf:=69) (lb:=#[.pointer (some ⟨LB,0,none⟩)]) rfl trivial (enters_of Tryz.func69 (by kernel_rfl) rfl) HN.out hst (fun _=>rfl)
   (fun pre W=>wl.heap.size≤W.heap.size∧aUa w OB wl.heap.size (pre.map fun(p:Int × Opn)=>p.2.id) W)
   (fun _ _ _=>False)
   (fun _ _ _ _ hs hg hr=>⟨Nat.le_trans hs.1 hg.size,hs.2.turn HLO.out HB1.out hg hr⟩)
   (fun _ _ _ _ _ hs _ _=>hs)
   ⟨Nat.le_refl _,HI0.out⟩
   (bEp (.slice A l.length c) i OB LB)
   (fun x a' _ W W' row h hg hr=>by
    obtain⟨XB,h1,h2⟩:=h
    exact⟨XB,h1,bY hg h2 (fun r e k=>by have:=(hr r e).2 _ (by rw[k];exact h2);cases this)⟩)
   ?assign ?body ?done ?stop
  case assign =>
   exact c_88
  case body =>
   rintro ll pre ⟨xi,o⟩ a' W ⟨hsz,hB⟩ ⟨XB,rfl,hO⟩ hSp;obtain⟨v,hv,hrow⟩:=hB.row;have hg:=hB.g
   have hpl:pre.length<1000000:=by
    obtain⟨suf,hS⟩:=hSp;have:=congrArg List.length hS;simp only [List.length_append,List.length_singleton] at this;have:=HCL.out;omega
   have hpl2:(pre.map fun(p:Int × Opn)=>p.2.id).length<1000000:=by rw[List.length_map];exact hpl
   obtain⟨ys,hys⟩:∃ ys,(pre.map fun(p:Int × Opn)=>p.2.id)=ys:=⟨_,rfl⟩
   rw[hys] at hrow hpl2;have HYS:=uZ hys;obtain⟨Av,cv,rfl⟩:=aJ hrow;have hc:=hv.cell;have hf:=hv.frozen;obtain⟨o0,o1,o2,o3,o4,o5,o6,o7,o8,o9,o10,o11⟩:=o;have q0:W.cell? ⟨XB,0,none⟩=some (.int .i64 o0):=aC hO rfl;dsimp only [Opn.agg];clear hB hO hst HI0 hSp hys
   gi_wp2_with (gi_at_builtin;refine wpListIn_append_own _ rfl _ _ 38 rfl wl.heap.size 3 i0 (.int .i64 0) 1 8 Tryz.underlying38 hi hz0 hz1 hz2 rfl b_52 _ _ _ rfl (hrow.alloc _) ⟨W.heap.size,0,none⟩ 1 1 [Value.int .i64 o0] rfl rfl (cell_one_new _ _ _) b_45 b_47 b_53 b_50 ?_;intro v' w1 hown' hgrow _;obtain⟨A3,c3,rfl⟩:=aJ hown';obtain⟨hv1,hI,hk,hoth⟩:=aUa.put hg hv hrow HLO.out HB1.out hsz hown' hgrow;have hc1:=hv1.cell;have hf1:=hv1.frozen)
   exact⟨hoth,hk,Nat.le_trans hsz hk.below.size,by rw[List.map_append,HYS.out];exact hI⟩
  case done =>
   rintro D xs W hD rfl ⟨hsz,hB⟩ hK;obtain⟨v,hv,hrow⟩:=hB.row;obtain⟨Av,cv,rfl⟩:=aJ hrow;have hc:=hv.cell;have HG4:=uZ (hB.turn HLO.out HB1.out (grownBy_putObj' _ D (.deferred none)) (fun r e=>by cases e;exact⟨hD,fun o ho=>by rw[hK] at ho;cases ho;rfl⟩)).g;have HROW:=uZ (Rd.of_own (wG hrow (grownBy_putObj' _ D (.deferred none)) (fun r e=>by cases e;exact .inr (fun o ho=>by rw[hK] at ho;cases ho;rfl))));have HK:=uZ hK;clear hB hK hst HI0 hrow hv;go_wp2;refine⟨by simp,.inl ⟨_,_,rfl,run_takeDeferred HK.out,?_⟩⟩;refine⟨.tuple #[.slice Av xs.length cv,.int .i64 0],by simp[results,Tryz.results20,go_sem],_,rfl,?_,HG4.out⟩;have h:=HROW.out;rw[List.length_map,aQh] at h;exact h
  case stop =>
   rintro D c pre W _ _ h _;exact h.elim
end Go.Proofs.YtdochkemaiokfaaGreat
namespace Go.Proofs.YtdochkemaiokfaaGreat
open Go.ChangeShapes Go.WideShapes Go.ChangeAt Go.RowKit
theorem own:ownKnob Tryz.prog.godebug=none:=by kernel_rfl
theorem aCx:laidOutB Tryz.prog=true:=by kernel_rfl
theorem oQ {H:Type} {enc:TypeId × Value→H} {P:Program} (hl:laidOutB P=true) {W W':World} (hb:Below W.heap.size W W'):∀ {ts:List TypeId} {vs:List Value} {ds:List (DataW H)} {ps:List MemPlace},
  (ts.all fun t=>P.readableRec t && decide (t<P.types.size))=true→DataW.TrodAll enc P W 0 (fun _=>true) true ts vs ds ps→(∀ x∈ps,x.block<W.heap.size)→DataW.TrodAll enc P W' 0 (fun b=>decide (b<W.heap.size)) true ts vs ds ps
 | [],_,_,_,_,h,_=>by
  obtain⟨rfl,rfl,rfl⟩:=trodAll_nil h;exact trodAll_mk0
 | t::ts,_,_,_,hr,h,hlt=>by
  obtain⟨v,vs,d,ds,p,q,rfl,rfl,rfl,h1,h2⟩:=trodAll_cons h;simp only [List.all_cons,Bool.and_eq_true,decide_eq_true_eq] at hr;exact trodAll_cons_mk (Below.trod hl hr.1.1 hr.1.2 h1 hb fun x hx=>hlt x (List.mem_append_left _ hx)) (oQ hl hb (by simpa using hr.2) h2 fun x hx=>hlt x (List.mem_append_right _ hx))
theorem sR {H:Type} {enc:TypeId × Value→H} {P:Program} (hl:laidOutB P=true) {f:Func} {s:ChangeSpec} {W W':World} {args:Array Value} {ds gs:List (DataW H)} {before:List MemPlace} {tb:TypeId}
  (hv:s.vars=[]) (hr:f.resultTypes=#[tb]) (hb:P.underlying tb=some .bool) (hp:(f.params.toList.all fun t=>P.readableRec t && decide (t<P.types.size))=true)
  (hW:DataW.Whole enc P f.params.toList s.vars false W args.toList ds gs before) (hfn:s.fn H ds={ results:=[.lit (.bool true)],args:=ds }) (hg:Below W.heap.size W W') :
  s.post enc P f false true false false W args (.bool true) W':=by
 have hlt:=hW.lt;have hW':=hW;obtain⟨p,q,hA,hV,rfl,_,_⟩:=hW;have hV':=hV;rw[hv] at hV';obtain⟨rfl,rfl⟩:=trodVars_none hV';simp only [List.append_nil] at hlt hW';refine⟨ds,[],p,[],p,[],hW',?_,?_,?_,hg.frame _,fun h=>by cases h⟩
 ·rw[hr,List.append_nil,hfn]
  exact trodAll_mk1 (shut_bool hb true)
 ·rw[List.append_nil,hfn]
  exact oQ hl hg hp hA hlt
 ·rw[List.append_nil,hfn,hv]
  rfl
noncomputable def aTw (os:Os):World:=World.holding Tryz.prog os ⟨#[],#[],[]⟩
noncomputable def fY (os:Os):World :=
 { aTw os with heap:=(aTw os).heap }
theorem aNb {L:List (String × DataW Unit)} {W:World} (_h1:laidMetH Tryz.prog L W) (h2:W.ShapedOpen Tryz.prog):Env W :=
 ⟨cell_of_shapedOpen_int (g:=0) (t:=3) (zero:=#[.int .i64 0]) h2 (of_decide_eq_true (by kernel_rfl)) (by kernel_rfl) rfl (by kernel_rfl) (by kernel_rfl) Tryz.underlying3,
  fun g h=>by rw[show Tryz.prog.globalNamed "internal/strconv.uint64pow10" = none by kernel_rfl] at h;cases h⟩
theorem aJp {w:World} {a:Addr} {u:Value} (h:w.cell? a=some u):a.spot=none:=by
 unfold World.cell? at h;split at h
 ·split at h
  ·cases h
  ·rename_i hs
   cases hz:a.spot with
   | none=>rfl
   | some x=>rw[hz] at hs;simp at hs
 ·cases h
theorem aVd {α:Type} {H:Type} {enc:TypeId × Value→H} {P:Program} {W:World} {k n:Nat} {t e:TypeId} {cs:List Value} {x:DataW H × List MemPlace} (f:α→List Value) (Q:α→Prop) (hk:∀ x,(f x).length=k) (h0:0<k)
  (ht:P.underlying t=some (.slice e)) (hc:P.cellsOf e=k) (hel:∀ n cs x,DataW.trod enc P W 0 (fun _=>true) true n e cs=some x→∃ a,cs=f a∧Q a)
  (hf:DataW.trod enc P W 0 (fun _=>true) true n t cs=some x):∃ v,cs=[v]∧∃ l:List α,Rd W k v (l.flatMap f)∧∀ a∈l,Q a:=by
 rcases Go.Deep.open_slice ht hf with ⟨hn,-⟩|⟨a,len0,cap0,m,n,D,Pl,hn,-,hle,hmx,hm,-,hcell⟩
 ·exact⟨_,hn,[],Rd.nil W k,(fun _ h=>by cases h)⟩
 ·refine⟨_,hn,?_⟩
  simp only [if_true] at hm;subst hm;rw[hc] at hcell
  have key:∀ m,m≤len0→∃ l:List α,l.length=m∧(∀ a∈l,Q a)∧∀ i (hi:i<l.length) j,j<k→W.cell? (a.add (i*k+j))=(f l[i])[j]?:=by
   intro m
   induction m with
   | zero=>exact fun _=>⟨[],rfl,(fun _ h=>by cases h),fun i hi=>absurd hi (Nat.not_lt_zero _)⟩
   | succ m ih =>
    intro hm;obtain⟨l,hl,hQ,hr⟩:=ih b_53;obtain⟨cs',hcs,htr⟩:=hcell m b_53;obtain⟨x,rfl,hx⟩:=hel _ _ _ htr;obtain⟨-,-,hcs⟩:=World.cells?_some hcs;refine⟨l++[x],by simp[hl],fun b hb=>?_,fun i hi j hj=>?_⟩
    ·rcases List.mem_append.1 hb with h|h
     ·exact hQ b h
     ·rw[List.mem_singleton.1 h];exact hx
    ·by_cases hi':i<l.length
     ·rw[hr i hi' j hj,List.getElem_append_left hi']
     ·have:i=m:=by simp at hi;omega
      subst this;have:=hcs j hj;rw[Go.Deep.add_add] at this;rw[this,List.getElem_append_right b_53];simp[hl]
  obtain⟨l,hl,hQ,hr⟩:=key len0 (Nat.le_refl _);refine⟨l,⟨some a,len0,_,rfl,by rw[aL f k hk,hl],hle,hmx,fun hpos=>?_⟩,hQ⟩;have hz:=hr 0 b_53 0 h0;have hlt0:0<(f (l[0]'b_53)).length:=by rw[hk];exact h0
  rw[List.getElem?_eq_getElem hlt0] at hz;have hsp:=aJp hz;have ha0:a.add (0*k+0)=a:=by simp[Addr.add]
  rw[ha0] at hsp hz;obtain⟨b,off,sp⟩:=a;obtain rfl:sp=none:=hsp;refine⟨b,off,rfl,World.block_lt_of_cell? W _ hz,fun j u hu=>?_⟩
  have hj:j<len0*k:=by
   have:=(List.getElem?_eq_some_iff.1 hu).1
   rwa [aL f k hk,hl] at this
  have hdiv:j / k<len0:=Nat.div_lt_of_lt_mul (by rw[Nat.mul_comm];exact hj);have hmod:j % k<k:=Nat.mod_lt _ h0;have e:j=j / k*k+j % k:=by rw[Nat.mul_comm];exact(Nat.div_add_mod j k).symm
  have h1:=hr (j / k) b_53 (j % k) hmod;rw[bT,← e] at h1;rw[h1,← fD f k hk l (j / k) (j % k) b_53 hmod,← e];exact hu
section
variable {H:Type} {enc:TypeId × Value→H} {W:World}
theorem tC {n:Nat} {cs:List Value} {x:DataW H × List MemPlace} (h:DataW.trod enc Tryz.prog W 0 (fun _=>true) true n 3 cs=some x):∃ a:Int,cs=[.int .i64 a]:=by
 obtain⟨a,ha,-⟩:=DataW.trod_int Tryz.underlying3 h;exact⟨a,ha⟩
end
section
variable {H:Type} {enc:TypeId × Value→H} {W:World}
theorem aMp {n:Nat} {cs:List Value} {x:DataW H × List MemPlace} (h:DataW.trod enc Tryz.prog W 0 (fun _=>true) true n 24 cs=some x):∃ a b c:Int,cs=[.int .i64 a,.int .i64 b,.int .i64 c]:=by
 obtain⟨xs,m,-,-,hl,hlen,hf⟩:=DataW.trod_struct Tryz.underlying24 h;have hl4:cs.length=3:=hl.trans (by kernel_rfl)
 match xs,hlen with
 | [y0,y1,y2],_ =>
  have h0:=hf 0 _ rfl;have h1:=hf 1 _ rfl;have h2:=hf 2 _ rfl
  match cs,hl4 with
  | [c0,c1,c2],_ =>
   have k1:Tryz.prog.cellsOf 3=1:=by kernel_rfl
   simp only [List.getElem_toArray,List.getElem_cons_zero,List.getElem_cons_succ,k1,List.getElem?_cons_zero,List.getElem?_cons_succ,List.drop_zero,List.drop_succ_cons,List.take_succ_cons,List.take_zero] at h0 h1 h2;obtain⟨a,ha⟩:=tC h0;obtain⟨b,hb⟩:=tC h1;obtain⟨c,hc⟩:=tC h2;simp only [List.cons.injEq,and_true] at ha hb hc;subst ha hb hc;exact⟨a,b,c,rfl⟩
end
section
variable {H:Type} {enc:TypeId × Value→H} {W:World}
theorem aMq {n:Nat} {cs:List Value} {x:DataW H × List MemPlace} (h:DataW.trod enc Tryz.prog W 0 (fun _=>true) true n 26 cs=some x):∃ o:Opn,cs=o.cells∧WfO o:=by
 obtain⟨xs,m,-,-,hl,hlen,hf⟩:=DataW.trod_struct Tryz.underlying26 h;have hl4:cs.length=12:=hl.trans (by kernel_rfl)
 match xs,hlen with
 | [y0,y1,y2,y3,y4,y5,y6,y7,y8,y9],_ =>
  have h0:=hf 0 _ rfl;have h1:=hf 1 _ rfl;have h2:=hf 2 _ rfl;have h3:=hf 3 _ rfl;have h4:=hf 4 _ rfl;have h5:=hf 5 _ rfl;have h6:=hf 6 _ rfl;have h7:=hf 7 _ rfl;have h8:=hf 8 _ rfl;have h9:=hf 9 _ rfl
  match cs,hl4 with
  | [c0,c1,c2,c3,c4,c5,c6,c7,c8,c9,c10,c11],_ =>
   have k1:Tryz.prog.cellsOf 3=1:=by kernel_rfl
   have k2:Tryz.prog.cellsOf 9=1:=by kernel_rfl
   have k3:Tryz.prog.cellsOf 24=3:=by kernel_rfl
   simp only [List.getElem_toArray,List.getElem_cons_zero,List.getElem_cons_succ,k1,k2,k3,List.getElem?_cons_zero,List.getElem?_cons_succ,List.drop_zero,List.drop_succ_cons,List.take_succ_cons,List.take_zero] at h0 h1 h2 h3 h4 h5 h6 h7 h8 h9;obtain⟨a0,e0,-,hiw⟩:=DataW.trod_int Tryz.underlying3 h0;obtain⟨a1,e1⟩:=tC h1;obtain⟨a2,e2,-,hkw⟩:=DataW.trod_int Tryz.underlying3 h2;obtain⟨a3,e3,-,huw⟩:=DataW.trod_int Tryz.underlying3 h3;obtain⟨a4,e4⟩:=tC h4;obtain⟨a5,e5⟩:=tC h5;obtain⟨a6,e6⟩:=tC h6;obtain⟨a7,e7,-⟩:=DataW.trod_string Tryz.underlying9 h7;obtain⟨a8,e8,hm8⟩:=DataW.trod_string Tryz.underlying9 h8;obtain⟨a9,a10,a11,e9⟩:=aMp h9;simp only [List.cons.injEq,and_true] at e0 e1 e2 e3 e4 e5 e6 e7 e8 e9;obtain⟨rfl,rfl,rfl⟩:=e9;subst e0 e1 e2 e3 e4 e5 e6 e7 e8;exact⟨⟨a0,a1,a2,a3,a4,a5,a6,a7,a8,a9,a10,a11⟩,rfl,⟨hiw,hkw,huw,hm8.2⟩⟩
theorem aLn {base:Nat} {v:Value} {d:DataW H} {ps:List MemPlace} (hval:Value.okWide Tryz.prog W .any base 26 v) (h:DataW.Trod enc Tryz.prog W 0 (fun _=>true) true 26 v d ps):∃ o:Opn,v=o.agg∧WfO o:=by
 obtain⟨cs,rfl,-⟩:=okWide_struct Tryz.underlying26 hval;obtain⟨fuel,hf⟩:=h;obtain⟨o,ho,hk⟩:=aMq hf;simp only [Value.cells] at ho;exact⟨o,by obtain⟨cs⟩:=cs;simp only at ho;rw[ho];rfl,hk⟩
theorem aZu {n:Nat} {cs:List Value} {x:DataW H × List MemPlace} (h:DataW.trod enc Tryz.prog W 0 (fun _=>true) true n 22 cs=some x):∃ v,cs=[v]∧∃ l,SlO W v l∧∀ o∈l,WfO o :=
 aVd (k:=12) Opn.cells WfO (fun _=>rfl) b_53 Tryz.underlying22 (by kernel_rfl) (fun n cs x hx=>aMq hx) h
theorem wV {base:Nat} {v:Value} {d:DataW H} {ps:List MemPlace} (hval:Value.okWide Tryz.prog W .any base 22 v) (h:DataW.Trod enc Tryz.prog W 0 (fun _=>true) true 22 v d ps):∃ l,SlO W v l∧∀ i (h:i<l.length),WfO l[i]:=by
 obtain⟨a0,len0,cap0,rfl⟩:=okWide_slice Tryz.underlying22 hval;obtain⟨fuel,hf⟩:=h;obtain⟨v,hv,l,hl,hw⟩:=aZu hf;simp only [Value.cells] at hv;simp at hv;subst hv;exact⟨l,hl,fun i hi=>hw _ (List.getElem_mem hi)⟩
end
end Go.Proofs.YtdochkemaiokfaaGreat



namespace Go.Proofs.YtdochkemaiokfaaGreat
open Go.RowKit
def uB1:List Br:=[⟨7,0,1,⟨#[84,111,119,110]⟩,⟨#[84]⟩,[]⟩]
def uT1:Tr:=⟨[7],uB1⟩
def uB2:List Br:=[⟨7,0,1,⟨#[84,111,119,110]⟩,⟨#[84]⟩,[8]⟩,⟨8,7,2,⟨#[65,99,116,115]⟩,⟨#[]⟩,[]⟩]
def uT2:Tr:=⟨[7],uB2⟩
theorem aXs:cB uB1 0 b_52:=⟨by decide +kernel,by decide +kernel,fun h=>absurd h b_53,by decide +kernel,fun _=>⟨by decide +kernel,by decide +kernel⟩⟩
theorem aXr:cB uB2 0 b_52:=⟨by decide +kernel,by decide +kernel,fun h=>absurd h b_53,by decide +kernel,fun _=>⟨by decide +kernel,by decide +kernel⟩⟩
theorem aXq:cB uB2 1 b_52:=⟨by decide +kernel,by decide +kernel,fun _=>by decide +kernel,by decide +kernel,fun h=>absurd h (by decide +kernel)⟩
theorem vP:aM ⟨[],[]⟩:=by
 refine⟨by decide,fun i h=>absurd h (Nat.not_lt_zero i),fun i h=>absurd h (Nat.not_lt_zero i),fun i h=>absurd h (Nat.not_lt_zero i),by simp[sortI,bH],fun i h=>absurd h (Nat.not_lt_zero i)⟩
theorem aEp:aM uT1:=by
 refine⟨by decide,fun i h=>?_,fun i h=>?_,fun i h=>?_,by simp[sortI,bH,uT1,uB1],fun i h=>?_⟩
 all_goals
  have:i=0:=by
   have h4:i<1:=h;omega
  subst this
 ·exact aXs
 ·simp[aX,uB1,uT1]
 ·first|decide +kernel|(simp[sortI,bH,uB1,uT1];done)
 ·exact⟨1,(by decide +kernel:dJ uB1 1 (uB1[0]'b_52)=some 1),by omega⟩
theorem aOz:aM uT2:=by
 refine⟨by decide,fun i h=>?_,fun i h=>?_,fun i h=>?_,by simp[sortI,bH,uB2,uT2],fun i h=>?_⟩
 all_goals
  have:i=0∨i=1:=by
   have h4:i<2:=h;omega
 ·rcases this with rfl|rfl
  ·exact aXr
  ·exact aXq
 ·rcases this with rfl|rfl<;>simp[aX,uB2,uT2,aE,fX,aN]
 ·rcases this with rfl|rfl<;>first|decide +kernel|(simp[sortI,bH,uB2,uT2];done)
 ·rcases this with rfl|rfl
  ·exact⟨1,(by decide +kernel:dJ uB2 2 (uB2[0]'b_52)=some 1),by omega⟩
  ·exact⟨2,(by decide +kernel:dJ uB2 2 (uB2[1]'b_52)=some 2),by omega⟩
def uO1:Opn:=⟨1,0,1,7,0,0,1,⟨#[84,111,119,110]⟩,⟨#[84]⟩,0,0,0⟩
def uO2:Opn:=⟨2,0,1,8,7,0,2,⟨#[65,99,116,115]⟩,⟨#[]⟩,0,0,0⟩
def uO3:Opn:=⟨3,0,6,2,0,0,0,⟨#[]⟩,⟨#[]⟩,0,0,0⟩
def uO4:Opn:=⟨4,0,6,2,0,0,0,⟨#[]⟩,⟨#[]⟩,0,0,0⟩
def uP4:Opn:=⟨4,0,6,3,0,0,0,⟨#[]⟩,⟨#[]⟩,0,0,0⟩
def uO5:Opn:=⟨5,0,6,1,0,0,0,⟨#[]⟩,⟨#[]⟩,0,0,0⟩
theorem uN1:oG ⟨[],[]⟩ uO1=uT1:=by decide +kernel
theorem uN2:oG uT1 uO2=uT2:=by decide +kernel
theorem bCb:aT ⟨[],[]⟩ uO1=(uT1,0):=by
 unfold aT;rw[if_neg (bCq vP (by decide +kernel) b_52),if_neg (by decide +kernel),uN1,if_pos aEp]
theorem bDm:aT uT1 uO2=(uT2,0):=by
 unfold aT;rw[if_neg (bCq aEp (by decide +kernel) b_52),if_neg (by decide +kernel),uN2,if_pos aOz]
theorem bDl:(aT ⟨[],[]⟩ uO2).2≠0:=by
 have h:cW ⟨[],[]⟩ uO2≠0:=by decide +kernel
 unfold aT;rw[if_neg (bCq vP (by decide +kernel) b_52),if_pos h];exact h
def uL2:List Opn:=[uO1,uO2]
def uL3:List Opn:=[uO1,uO2,uO3]
def uL4:List Opn:=[uO1,uO2,uO3,uO4]
theorem uC1:cN [uO1]=[(0,uO1)]:=by decide +kernel
theorem uC2:cN uL2=[(0,uO1),(1,uO2)]:=by decide +kernel
theorem uC3:cN uL3=[(0,uO1)]:=by decide +kernel
theorem uC4:cN uL4=[(0,uO1),(1,uO2)]:=by decide +kernel
theorem uC5:cN [uO1,uO2,uO3,uO4,uO5]=[(1,uO2)]:=by decide +kernel
theorem bDs:bI [(0,uO1)] ⟨[],[]⟩=(uT1,-1,0):=by
 unfold bI;rw[bCb,if_pos rfl];rfl
theorem bDr:bI [(0,uO1),(1,uO2)] ⟨[],[]⟩=(uT2,-1,0):=by
 unfold bI;rw[bCb,if_pos rfl];unfold bI;dsimp only;rw[bDm,if_pos rfl];rfl
theorem bEh:bI [(1,uO2)] ⟨[],[]⟩=(⟨[],[]⟩,1,(aT ⟨[],[]⟩ uO2).2):=by
 unfold bI;rw[if_neg bDl]
theorem uR1:aG [uO1]=(uT1,-1,0):=by unfold aG;rw[uC1,bDs]
theorem uR2:aG uL2=(uT2,-1,0):=by unfold aG;rw[uC2,bDr]
theorem uR3:aG uL3=(uT1,-1,0):=by unfold aG;rw[uC3,bDs]
theorem uR4:aG uL4=(uT2,-1,0):=by unfold aG;rw[uC4,bDr]
theorem uR5:aG [uO1,uO2,uO3,uO4,uO5]=(⟨[],[]⟩,1,(aT ⟨[],[]⟩ uO2).2):=by unfold aG;rw[uC5,bEh]
theorem aXt:bF [] ⟨[],[]⟩ uO1=(uT1,-1,0):=by
 unfold bF;rw[if_neg (by decide +kernel),if_neg b_52,bCb,if_neg b_52]
theorem bBo:bF [uO1] uT1 uO2=(uT2,-1,0):=by
 unfold bF;rw[if_neg (by decide +kernel),if_neg b_52,bDm,if_neg b_52]
theorem bCd:bF uL2 uT2 uO3=(uT1,-1,0):=by
 unfold bF;rw[if_neg (by decide +kernel),if_pos b_52,show uL2++[uO3]=uL3 from rfl,uR3,if_neg b_52]
theorem bDn:bF uL3 uT1 uO4=(uT2,-1,0):=by
 unfold bF;rw[if_neg (by decide +kernel),if_pos b_52,show uL3++[uO4]=uL4 from rfl,uR4,if_neg b_52]
theorem bCc:bF uL3 uT1 uP4=(uT1,-1,7):=by
 unfold bF;have h:eX uL3 uP4=7:=by decide +kernel
 rw[h,if_pos b_52]
theorem bEc:bF uL4 uT2 uO5=(uT2,1,20):=by
 unfold bF;rw[if_neg (by decide +kernel),if_pos b_52,show uL4++[uO5]=[uO1,uO2,uO3,uO4,uO5] from rfl,uR5,if_pos bDl]
theorem uK0:cS []=(⟨[],[]⟩,-1,0):=rfl
theorem uK1:cS [uO1]=(uT1,-1,0):=by
 unfold cS;unfold gB;rw[aXt,if_pos rfl];rfl
theorem uK2:cS uL2=(uT2,-1,0):=by
 unfold cS uL2;unfold gB;rw[aXt,if_pos rfl];unfold gB;rw[show([]:List Opn)++[uO1]=[uO1] from rfl];dsimp only;rw[bBo,if_pos rfl];rfl
theorem uK3:cS uL3=(uT1,-1,0):=by
 unfold cS uL3;unfold gB;rw[aXt,if_pos rfl];unfold gB;rw[show([]:List Opn)++[uO1]=[uO1] from rfl];dsimp only;rw[bBo,if_pos rfl];unfold gB;rw[show[uO1]++[uO2]=uL2 from rfl];dsimp only;rw[bCd,if_pos rfl];rfl
theorem uK4:cS uL4=(uT2,-1,0):=by
 unfold cS uL4;unfold gB;rw[aXt,if_pos rfl];unfold gB;rw[show([]:List Opn)++[uO1]=[uO1] from rfl];dsimp only;rw[bBo,if_pos rfl];unfold gB;rw[show[uO1]++[uO2]=uL2 from rfl];dsimp only;rw[bCd,if_pos rfl];unfold gB;rw[show uL2++[uO3]=uL3 from rfl];dsimp only;rw[bDn,if_pos rfl];rfl
theorem xF1:yJ [] uO1=([uO1],-1,0):=by
 unfold yJ;rw[uK0,if_pos rfl,show aG []=(⟨[],[]⟩,-1,0) from rfl];dsimp only;rw[aXt,if_pos rfl];rfl
theorem xF2:yJ [uO1] uO2=(uL2,-1,0):=by
 unfold yJ;rw[uK1,if_pos rfl,uR1];dsimp only;rw[bBo,if_pos rfl];rfl
theorem xF3:yJ uL2 uO3=(uL3,-1,0):=by
 unfold yJ;rw[uK2,if_pos rfl,uR2];dsimp only;rw[bCd,if_pos rfl];rfl
theorem xF4:yJ uL3 uO4=(uL4,-1,0):=by
 unfold yJ;rw[uK3,if_pos rfl,uR3];dsimp only;rw[bDn,if_pos rfl];rfl
theorem bDz:yJ uL3 uP4=([],-1,7):=by
 unfold yJ;rw[uK3,if_pos rfl,uR3];dsimp only;rw[bCc,if_neg b_52]
theorem xF5:yJ uL4 uO5=([],1,20):=by
 unfold yJ;rw[uK4,if_pos rfl,uR4];dsimp only;rw[bEc,if_neg b_52]
theorem xFc:lC uL3=([1],0):=by
 unfold lC;rw[uK3,if_pos rfl,uC3];rfl
theorem bDy:sF uL3=(uT1,0):=by
 unfold sF;rw[uK3,if_pos rfl,uR3]
theorem bDx:sF uL4=(uT2,0):=by
 unfold sF;rw[uK4,if_pos rfl,uR4]
theorem xFa:atR uL4 9=(uT2,0):=by
 unfold atR;rw[uK4,if_pos rfl,if_neg b_52,show(uL4.filter fun o=>!decide ((9:Int)<o.day))=uL4 by decide +kernel,uR4]
theorem xFe:xV uL4=([⟨7,0,0,0⟩,⟨8,0,0,0⟩],0):=by
 unfold xV;rw[uK4,if_pos rfl];decide +kernel
theorem bDw (m:ByteArray):dS uL4 m=if m=⟨#[84]⟩ then some 7 else none:=by
 unfold dS uL4;by_cases h:m=⟨#[84]⟩
 ·subst h
  decide +kernel
 ·rw[if_neg h]
  have h1:decide ((⟨#[84]⟩:ByteArray)=m)=false:=decide_eq_false fun e=>h e.symm
  simp only [List.reverse_cons,List.reverse_nil,List.nil_append,List.cons_append,List.find?_cons,List.find?_nil];rw[show cJ uO4=false by decide +kernel,show cJ uO3=false by decide +kernel,show cJ uO2=false by decide +kernel,show uO1.mark=⟨#[84]⟩ from rfl,h1];simp
theorem aJd:cU uL4 [⟨⟨#[84]⟩,7⟩]:=by
 refine⟨List.pairwise_singleton _ _,fun x=>?_⟩;rw[bDw];obtain⟨a,b⟩:=x;constructor
 ·intro h
  have:=List.mem_singleton.1 h;injection this with h1 h2;subst h1 h2;rfl
 ·intro h
  by_cases he:a=⟨#[84]⟩
  ·rw[if_pos he] at h
   injection h with h;have h:(7:Int)=b:=h;subst h he;exact List.mem_singleton.2 rfl
  ·rw[if_neg he] at h
   cases h
end Go.Proofs.YtdochkemaiokfaaGreat