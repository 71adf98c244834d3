/- Lemmas on what the functions of the program and of the library compute: Awu0, Awu. The conditions stand at each. -/
import Derived.Test.YtdochkemaiokfaaGreatQ42
import Derived.Test.YtdochkemaiokfaaGreatQ33
import Derived.Test.YtdochkemaiokfaaGreatQ30
import Derived.Test.YtdochkemaiokfaaGreatQ35
import Derived.Test.YtdochkemaiokfaaGreatQ3
set_option maxHeartbeats 16000000
set_option maxRecDepth 100000
set_option linter.all false
namespace Go.Proofs.YtdochkemaiokfaaGreat
open Go.RowKit
theorem aXo:WfO uO1:=⟨by decide +kernel,by decide +kernel,by decide +kernel,by decide +kernel⟩
theorem bBn:WfO uO2:=⟨by decide +kernel,by decide +kernel,by decide +kernel,by decide +kernel⟩
theorem bBz:WfO uO3:=⟨by decide +kernel,by decide +kernel,by decide +kernel,by decide +kernel⟩
theorem bDk:WfO uO4:=⟨by decide +kernel,by decide +kernel,by decide +kernel,by decide +kernel⟩
theorem bBy:WfO uP4:=⟨by decide +kernel,by decide +kernel,by decide +kernel,by decide +kernel⟩
theorem bEa:WfO uO5:=⟨by decide +kernel,by decide +kernel,by decide +kernel,by decide +kernel⟩
theorem aGp:∀ i (h:i<uL4.length),WfO uL4[i]:=fun i h=>by
 have:i=0∨i=1∨i=2∨i=3:=by
  have h4:i<4:=h;omega
 rcases this with rfl|rfl|rfl|rfl
 ·exact aXo
 ·exact bBn
 ·exact bBz
 ·exact bDk
theorem aOy:∀ i (h:i<uL3.length),WfO uL3[i]:=fun i h=>by
 have:i=0∨i=1∨i=2:=by
  have h4:i<3:=h;omega
 rcases this with rfl|rfl|rfl
 ·exact aXo
 ·exact bBn
 ·exact bBz
theorem bBw:∀ i (h:i<uL2.length),WfO uL2[i]:=fun i h=>by
 have:i=0∨i=1:=by
  have h4:i<2:=h;omega
 rcases this with rfl|rfl
 ·exact aXo
 ·exact bBn
theorem bBx:∀ i (h:i<[uO1].length),WfO [uO1][i]:=fun i h=>by
 have:i=0:=by
  have h4:i<1:=h;omega
 subst this;exact aXo
def aBk (l:List Opn) (n:Nat) (w:World) (e:Ending) (w':World):Prop:=∃ A c,e=.returned (.tuple #[.slice A n c,.int .i64 (-1),.int .i64 0])∧SlO w' (.slice A n c) l∧aA w w'
theorem aGj {l:List Opn} {n:Nat} (hn:l.length=n) {w W:World} {e:Ending} (h:aSm (l,-1,0) w e W):aBk l n w e W:=by
 subst hn;obtain⟨v,rfl,hv,hg⟩:=h;obtain⟨A,c,rfl,-⟩:=hv.open_;exact⟨A,c,rfl,hv,hg⟩
theorem bBb (w:World) (hE:Env w) (v:Value) (h:SlO w v []):Calls Tryz.prog 17 #[v,.agg #[.int .i64 1,.int .i64 0,.int .i64 1,.int .i64 7,.int .i64 0,.int .i64 0,.int .i64 1,.string ⟨#[84,111,119,110]⟩,.string ⟨#[84]⟩,.int .i64 0,.int .i64 0,.int .i64 0]] w (aBk [uO1] 1 w):=by
 have:=nY [] uO1 (fun i h=>absurd h (Nat.not_lt_zero i)) aXo v w hE h b_52;rw[xF1] at this;exact this.mono fun _ _ h=>aGj rfl h
theorem bBa (w:World) (hE:Env w) (v:Value) (h:SlO w v [uO1]):Calls Tryz.prog 17 #[v,.agg #[.int .i64 2,.int .i64 0,.int .i64 1,.int .i64 8,.int .i64 7,.int .i64 0,.int .i64 2,.string ⟨#[65,99,116,115]⟩,.string ⟨#[]⟩,.int .i64 0,.int .i64 0,.int .i64 0]] w (aBk uL2 2 w):=by
 have:=nY [uO1] uO2 bBx bBn v w hE h b_52;rw[xF2] at this;exact this.mono fun _ _ h=>aGj rfl h
theorem bAz (w:World) (hE:Env w) (v:Value) (h:SlO w v uL2):Calls Tryz.prog 17 #[v,.agg #[.int .i64 3,.int .i64 0,.int .i64 6,.int .i64 2,.int .i64 0,.int .i64 0,.int .i64 0,.string ⟨#[]⟩,.string ⟨#[]⟩,.int .i64 0,.int .i64 0,.int .i64 0]] w (aBk uL3 3 w):=by
 have:=nY uL2 uO3 bBw bBz v w hE h b_52;rw[xF3] at this;exact this.mono fun _ _ h=>aGj rfl h
theorem bAy (w:World) (hE:Env w) (v:Value) (h:SlO w v uL3):Calls Tryz.prog 17 #[v,.agg #[.int .i64 4,.int .i64 0,.int .i64 6,.int .i64 2,.int .i64 0,.int .i64 0,.int .i64 0,.string ⟨#[]⟩,.string ⟨#[]⟩,.int .i64 0,.int .i64 0,.int .i64 0]] w (aBk uL4 4 w):=by
 have:=nY uL3 uO4 aOy bDk v w hE h b_52;rw[xF4] at this;exact this.mono fun _ _ h=>aGj rfl h
def aTy (i n:Int) (w:World) (e:Ending) (w':World):Prop:=∃ v,e=.returned (.tuple #[v,.int .i64 i,.int .i64 n])∧aA w w'
theorem bAv (w:World) (hE:Env w) (v:Value) (h:SlO w v uL3):Calls Tryz.prog 17 #[v,.agg #[.int .i64 4,.int .i64 0,.int .i64 6,.int .i64 3,.int .i64 0,.int .i64 0,.int .i64 0,.string ⟨#[]⟩,.string ⟨#[]⟩,.int .i64 0,.int .i64 0,.int .i64 0]] w (aTy (-1) 7 w):=by
 have:=nY uL3 uP4 aOy bBy v w hE h b_52;rw[bDz] at this;exact this.mono fun _ _ ⟨v,he,_,hg⟩=>⟨v,he,hg⟩
theorem bAu (w:World) (hE:Env w) (v:Value) (h:SlO w v uL4):Calls Tryz.prog 17 #[v,.agg #[.int .i64 5,.int .i64 0,.int .i64 6,.int .i64 1,.int .i64 0,.int .i64 0,.int .i64 0,.string ⟨#[]⟩,.string ⟨#[]⟩,.int .i64 0,.int .i64 0,.int .i64 0]] w (aTy 1 20 w):=by
 have:=nY uL4 uO5 aGp bEa v w hE h b_52;rw[xF5] at this;exact this.mono fun _ _ ⟨v,he,_,hg⟩=>⟨v,he,hg⟩
theorem bAx (w:World) (hE:Env w) (v:Value) (h:SlO w v uL3):Calls Tryz.prog 20 #[v] w fun e w'=>∃ A c,e=.returned (.tuple #[.slice A 1 c,.int .i64 0])∧SlI w' (.slice A 1 c) [1]∧aA w w':=by
 have:=aEq uL3 aOy v w hE h b_52;rw[xFc] at this;refine this.mono ?_;rintro e W ⟨v,rfl,hv,hg⟩;obtain⟨A,c,rfl,-⟩:=SlI.open_ hv;exact⟨A,c,rfl,hv,hg⟩
def aSj (n:Nat) (w:World) (e:Ending) (w':World):Prop:=∃ R r k B c,e=.returned (.tuple #[.agg #[.slice R k r,.slice B n c],.int .i64 0])∧aA w w'
theorem aUo {t:Tr} {n:Nat} (hn:t.brs.length=n) {w W:World} {e:Ending} (h:bU (t,0) w e W):aSj n w e W:=by
 subst hn;obtain⟨rv,bv,rfl,hv,hg⟩:=h;obtain⟨B,c,hB,-⟩:=bQ.open_ (v:=bv) (oR hv);subst hB;obtain⟨R,r,hR,-⟩:=SlI.open_ (v:=rv) (aEr hv);subst hR;exact⟨R,r,_,B,c,rfl,hg⟩
theorem bAt (w:World) (hE:Env w) (v:Value) (h:SlO w v uL3):Calls Tryz.prog 22 #[v] w (aSj 1 w):=by
 have:=aUd uL3 aOy v w hE h b_52;rw[bDy] at this;exact this.mono fun _ _ h=>aUo rfl h
theorem bAs (w:World) (hE:Env w) (v:Value) (h:SlO w v uL4):Calls Tryz.prog 22 #[v] w (aSj 2 w):=by
 have:=aUd uL4 aGp v w hE h b_52;rw[bDx] at this;exact this.mono fun _ _ h=>aUo rfl h
theorem bDe (w:World) (hE:Env w) (v:Value) (h:SlO w v uL4):Calls Tryz.prog 24 #[v,.int .i64 9] w (aSj 2 w):=by
 have:=uAt uL4 9 aGp v w hE h b_52;rw[xFa] at this;exact this.mono fun _ _ h=>aUo rfl h
theorem bAw (w:World) (hE:Env w) (v:Value) (h:SlO w v uL4):Calls Tryz.prog 30 #[v] w fun e w'=>∃ A c,e=.returned (.tuple #[.slice A 1 c,.int .i64 0])∧SlM w' (.slice A 1 c) [⟨⟨#[84]⟩,7⟩]∧aA w w':=by
 refine(aJj uL4 aGp v w hE h b_52).mono ?_;rintro e W ⟨-,h1,hg⟩;obtain⟨m,v,hm,rfl,hv⟩:=h1 (by rw[uK4]);have:m=[⟨⟨#[84]⟩,7⟩]:=rR xI hm.1 aJd.1 fun x=>(hm.2 x).trans (aJd.2 x).symm
 subst this;obtain⟨A,c,rfl,-⟩:=SlM.open_ hv;exact⟨A,c,rfl,hv,hg⟩
theorem bDc (w:World) (hE:Env w) (v:Value) (h:SlO w v uL4):Calls Tryz.prog 28 #[v] w fun e w'=>∃ A c,e=.returned (.tuple #[.slice A 2 c,.int .i64 0])∧aA w w':=by
 have:=uH uL4 aGp v w hE h b_52;rw[xFe] at this;refine this.mono ?_;rintro e W ⟨v,rfl,hv,hg⟩;obtain⟨A,c,rfl,-⟩:=SlC.open_ hv;exact⟨A,c,rfl,hg⟩
theorem bDd (w:World) (hE:Env w) (v:Value) (h:SlO w v uL4):Calls Tryz.prog 14 #[v] w fun e w'=>e=.returned (.tuple #[.int .i64 (-1),.int .i64 0])∧aA w w':=by
 have:=yU uL4 aGp v w hE h b_52;rw[uK4] at this;exact this.mono fun _ _ ⟨he,hg⟩=>⟨he,hg⟩
theorem bCy (v:Value) (w0 W:World) (h:SlI w0 v [1]) (hg:aA w0 W):Calls Tryz.prog 26 #[v,.slice (some ⟨W.heap.size,0,none⟩) 1 1] (W.alloc (.cells #[.int .i64 1] 3)) fun e w'=>e=.returned (.bool true)∧aA (W.alloc (.cells #[.int .i64 1] 3)) w':=by
 have:=aNa [1] [1] v _ _ (h.mono (hg.alloc (.cells #[.int .i64 1] 3))) (Rd.fresh W 3 1 1 [.int .i64 1] rfl b_52);simpa using this
theorem bCx (v:Value) (w0 W:World) (h:SlM w0 v [⟨⟨#[84]⟩,7⟩]) (hg:aA w0 W):Calls Tryz.prog 41 #[v,.slice (some ⟨W.heap.size,0,none⟩) 1 1] (W.alloc (.cells #[.string ⟨#[84]⟩,.int .i64 7] 62)) fun e w'=>e=.returned (.bool true)∧aA (W.alloc (.cells #[.string ⟨#[84]⟩,.int .i64 7] 62)) w':=by
 have:=bAf [⟨⟨#[84]⟩,7⟩] [⟨⟨#[84]⟩,7⟩] v _ _ (h.mono (hg.alloc (.cells #[.string ⟨#[84]⟩,.int .i64 7] 62))) (Rd.fresh W 62 2 1 [.string ⟨#[84]⟩,.int .i64 7] rfl b_52);rw[decide_eq_true rfl] at this;exact this
def awL:Nat→List Opn
 | 0=>[]
 | 1=>[uO1]
 | 2=>uL2
 | _=>uL3
theorem aDx (w:World) (hE:Env w):Calls Tryz.prog 11 #[] w fun e w'=>e=.returned (.bool true)∧aA w w':=by
 have HE:=uZ hE;have HAR:=uZ (aO w (.cells #[.int .i64 0,.int .i64 0,.int .i64 1,.int .i64 7,.int .i64 0,.int .i64 0,.int .i64 1,.string ⟨#[84,111,119,110]⟩,.string ⟨#[84]⟩,.int .i64 0,.int .i64 0,.int .i64 0,.int .i64 0,.int .i64 0,.int .i64 1,.int .i64 8,.int .i64 7,.int .i64 0,.int .i64 2,.string ⟨#[65,99,116,115]⟩,.string ⟨#[]⟩,.int .i64 0,.int .i64 0,.int .i64 0,.int .i64 0,.int .i64 0,.int .i64 6,.int .i64 2,.int .i64 0,.int .i64 0,.int .i64 0,.string ⟨#[]⟩,.string ⟨#[]⟩,.int .i64 0,.int .i64 0,.int .i64 0] 26));have HG0:=uZ ((uX w).alloc (.cells #[.int .i64 0,.int .i64 0,.int .i64 1,.int .i64 7,.int .i64 0,.int .i64 0,.int .i64 1,.string ⟨#[84,111,119,110]⟩,.string ⟨#[84]⟩,.int .i64 0,.int .i64 0,.int .i64 0,.int .i64 0,.int .i64 0,.int .i64 1,.int .i64 8,.int .i64 7,.int .i64 0,.int .i64 2,.string ⟨#[65,99,116,115]⟩,.string ⟨#[]⟩,.int .i64 0,.int .i64 0,.int .i64 0,.int .i64 0,.int .i64 0,.int .i64 6,.int .i64 2,.int .i64 0,.int .i64 0,.int .i64 0,.string ⟨#[]⟩,.string ⟨#[]⟩,.int .i64 0,.int .i64 0,.int .i64 0] 26));clear hE;go_enter Tryz.func11,Tryz.ntmps11;go_wp2_with fail;generalize w.alloc (.cells #[.int .i64 0,.int .i64 0,.int .i64 1,.int .i64 7,.int .i64 0,.int .i64 0,.int .i64 1,.string ⟨#[84,111,119,110]⟩,.string ⟨#[84]⟩,.int .i64 0,.int .i64 0,.int .i64 0,.int .i64 0,.int .i64 0,.int .i64 1,.int .i64 8,.int .i64 7,.int .i64 0,.int .i64 2,.string ⟨#[65,99,116,115]⟩,.string ⟨#[]⟩,.int .i64 0,.int .i64 0,.int .i64 0,.int .i64 0,.int .i64 0,.int .i64 6,.int .i64 2,.int .i64 0,.int .i64 0,.int .i64 0,.string ⟨#[]⟩,.string ⟨#[]⟩,.int .i64 0,.int .i64 0,.int .i64 0] 26)=w1 at *;generalize w.heap.size=LB at *;go_loopg [1,35] 3 (fun gg s1 s35 wr=>∃ kk:Nat,kk≤3∧3-kk≤gg∧s35=.int .i64 kk∧∃ A c,s1=.slice A kk c∧Aside (SlO wr (.slice A kk c) (awL kk))∧Aside (aA w1 wr))
 case atStart=>exact⟨0,by omega,by omega,rfl,none,0,rfl,(show Aside _ from SlO.nil _),(show Aside _ from uX _)⟩
 case round =>
  obtain⟨kk,hkk,hgk,rfl,A,c,rfl,HS,HG⟩:=hrel;have HS1:=uZ HS.out;have HG1:=uZ HG.out;have HGW:=uZ (HG0.out.trans HG.out);have HAW:=uZ (aD HG.out HAR.out);clear HS HG;have hcs:kk=0∨kk=1∨kk=2∨kk=3:=by omega
  rcases hcs with rfl|rfl|rfl|rfl
  ·replace HS1:=uZ (show SlO wr (.slice A 0 c) [] from HS1.out)
   have c0:wr.cell? ⟨LB,0,none⟩=some (.int .i64 0):=aC HAW.out rfl;have c1:wr.cell? ⟨LB,1,none⟩=some (.int .i64 0):=aC HAW.out rfl;have c2:wr.cell? ⟨LB,2,none⟩=some (.int .i64 1):=aC HAW.out rfl;have c3:wr.cell? ⟨LB,3,none⟩=some (.int .i64 7):=aC HAW.out rfl;have c4:wr.cell? ⟨LB,4,none⟩=some (.int .i64 0):=aC HAW.out rfl;have c5:wr.cell? ⟨LB,5,none⟩=some (.int .i64 0):=aC HAW.out rfl;have c6:wr.cell? ⟨LB,6,none⟩=some (.int .i64 1):=aC HAW.out rfl;have c7:wr.cell? ⟨LB,7,none⟩=some (.string ⟨#[84,111,119,110]⟩):=aC HAW.out rfl;have c8:wr.cell? ⟨LB,8,none⟩=some (.string ⟨#[84]⟩):=aC HAW.out rfl;have c9:wr.cell? ⟨LB,9,none⟩=some (.int .i64 0):=aC HAW.out rfl;have c10:wr.cell? ⟨LB,10,none⟩=some (.int .i64 0):=aC HAW.out rfl;have c11:wr.cell? ⟨LB,11,none⟩=some (.int .i64 0):=aC HAW.out rfl;have HXA:=uZ (aO wr (.cells #[.int .i64 0,.int .i64 0,.int .i64 1,.int .i64 7,.int .i64 0,.int .i64 0,.int .i64 1,.string ⟨#[84,111,119,110]⟩,.string ⟨#[84]⟩,.int .i64 0,.int .i64 0,.int .i64 0] 26));have HGA:=uZ ((uX wr).alloc (.cells #[.int .i64 0,.int .i64 0,.int .i64 1,.int .i64 7,.int .i64 0,.int .i64 0,.int .i64 1,.string ⟨#[84,111,119,110]⟩,.string ⟨#[84]⟩,.int .i64 0,.int .i64 0,.int .i64 0] 26));go_wp2_with fail;clear c0 c1 c2 c3 c4 c5 c6 c7 c8 c9 c10 c11;refine(bBb _ (HE.out.mono (HGW.out.alloc _)) _ (SlO.mono HS1.out ((uX wr).alloc _))).mono ?_;rintro e w2 ⟨A2,c2,rfl,h2,g2⟩;have HS2:=uZ h2;have HG2:=uZ ((HG1.out.alloc _).trans g2);clear h2 g2 HS1 HG1 HXA HGA;dsimp only;go_wp2;go_roundg (3-(0+1))
   case measure=>omega
   case rel=>exact⟨1,by omega,by omega,by first|rfl|go_num,A2,c2,rfl,(show Aside _ from HS2.out),(show Aside _ from HG2.out)⟩
  ·replace HS1:=uZ (show SlO wr (.slice A 1 c) [uO1] from HS1.out)
   have c0:wr.cell? ⟨LB,12,none⟩=some (.int .i64 0):=aC HAW.out rfl;have c1:wr.cell? ⟨LB,13,none⟩=some (.int .i64 0):=aC HAW.out rfl;have c2:wr.cell? ⟨LB,14,none⟩=some (.int .i64 1):=aC HAW.out rfl;have c3:wr.cell? ⟨LB,15,none⟩=some (.int .i64 8):=aC HAW.out rfl;have c4:wr.cell? ⟨LB,16,none⟩=some (.int .i64 7):=aC HAW.out rfl;have c5:wr.cell? ⟨LB,17,none⟩=some (.int .i64 0):=aC HAW.out rfl;have c6:wr.cell? ⟨LB,18,none⟩=some (.int .i64 2):=aC HAW.out rfl;have c7:wr.cell? ⟨LB,19,none⟩=some (.string ⟨#[65,99,116,115]⟩):=aC HAW.out rfl;have c8:wr.cell? ⟨LB,20,none⟩=some (.string ⟨#[]⟩):=aC HAW.out rfl;have c9:wr.cell? ⟨LB,21,none⟩=some (.int .i64 0):=aC HAW.out rfl;have c10:wr.cell? ⟨LB,22,none⟩=some (.int .i64 0):=aC HAW.out rfl;have c11:wr.cell? ⟨LB,23,none⟩=some (.int .i64 0):=aC HAW.out rfl;have HXA:=uZ (aO wr (.cells #[.int .i64 0,.int .i64 0,.int .i64 1,.int .i64 8,.int .i64 7,.int .i64 0,.int .i64 2,.string ⟨#[65,99,116,115]⟩,.string ⟨#[]⟩,.int .i64 0,.int .i64 0,.int .i64 0] 26));have HGA:=uZ ((uX wr).alloc (.cells #[.int .i64 0,.int .i64 0,.int .i64 1,.int .i64 8,.int .i64 7,.int .i64 0,.int .i64 2,.string ⟨#[65,99,116,115]⟩,.string ⟨#[]⟩,.int .i64 0,.int .i64 0,.int .i64 0] 26));go_wp2_with fail;clear c0 c1 c2 c3 c4 c5 c6 c7 c8 c9 c10 c11;refine(bBa _ (HE.out.mono (HGW.out.alloc _)) _ (SlO.mono HS1.out ((uX wr).alloc _))).mono ?_;rintro e w2 ⟨A2,c2,rfl,h2,g2⟩;have HS2:=uZ h2;have HG2:=uZ ((HG1.out.alloc _).trans g2);clear h2 g2 HS1 HG1 HXA HGA;dsimp only;go_wp2;go_roundg (3-(1+1))
   case measure=>omega
   case rel=>exact⟨2,by omega,by omega,by first|rfl|go_num,A2,c2,rfl,(show Aside _ from HS2.out),(show Aside _ from HG2.out)⟩
  ·replace HS1:=uZ (show SlO wr (.slice A 2 c) uL2 from HS1.out)
   have c0:wr.cell? ⟨LB,24,none⟩=some (.int .i64 0):=aC HAW.out rfl;have c1:wr.cell? ⟨LB,25,none⟩=some (.int .i64 0):=aC HAW.out rfl;have c2:wr.cell? ⟨LB,26,none⟩=some (.int .i64 6):=aC HAW.out rfl;have c3:wr.cell? ⟨LB,27,none⟩=some (.int .i64 2):=aC HAW.out rfl;have c4:wr.cell? ⟨LB,28,none⟩=some (.int .i64 0):=aC HAW.out rfl;have c5:wr.cell? ⟨LB,29,none⟩=some (.int .i64 0):=aC HAW.out rfl;have c6:wr.cell? ⟨LB,30,none⟩=some (.int .i64 0):=aC HAW.out rfl;have c7:wr.cell? ⟨LB,31,none⟩=some (.string ⟨#[]⟩):=aC HAW.out rfl;have c8:wr.cell? ⟨LB,32,none⟩=some (.string ⟨#[]⟩):=aC HAW.out rfl;have c9:wr.cell? ⟨LB,33,none⟩=some (.int .i64 0):=aC HAW.out rfl;have c10:wr.cell? ⟨LB,34,none⟩=some (.int .i64 0):=aC HAW.out rfl;have c11:wr.cell? ⟨LB,35,none⟩=some (.int .i64 0):=aC HAW.out rfl;have HXA:=uZ (aO wr (.cells #[.int .i64 0,.int .i64 0,.int .i64 6,.int .i64 2,.int .i64 0,.int .i64 0,.int .i64 0,.string ⟨#[]⟩,.string ⟨#[]⟩,.int .i64 0,.int .i64 0,.int .i64 0] 26));have HGA:=uZ ((uX wr).alloc (.cells #[.int .i64 0,.int .i64 0,.int .i64 6,.int .i64 2,.int .i64 0,.int .i64 0,.int .i64 0,.string ⟨#[]⟩,.string ⟨#[]⟩,.int .i64 0,.int .i64 0,.int .i64 0] 26));go_wp2_with fail;clear c0 c1 c2 c3 c4 c5 c6 c7 c8 c9 c10 c11;refine(bAz _ (HE.out.mono (HGW.out.alloc _)) _ (SlO.mono HS1.out ((uX wr).alloc _))).mono ?_;rintro e w2 ⟨A2,c2,rfl,h2,g2⟩;have HS2:=uZ h2;have HG2:=uZ ((HG1.out.alloc _).trans g2);clear h2 g2 HS1 HG1 HXA HGA;dsimp only;go_wp2;go_roundg (3-(2+1))
   case measure=>omega
   case rel=>exact⟨3,by omega,by omega,by first|rfl|go_num,A2,c2,rfl,(show Aside _ from HS2.out),(show Aside _ from HG2.out)⟩
  ·replace HS1:=uZ (show SlO wr (.slice A 3 c) uL3 from HS1.out)
   clear HG1 HAW HAR HG0;go_wp2_with fail;refine(bAx _ (HE.out.mono HGW.out) _ HS1.out).mono ?_;rintro e v2 ⟨CA,cc,rfl,hc,gq⟩;replace HGW:=uZ (HGW.out.trans gq);replace HS1:=uZ (HS1.out.mono gq);have HC:=uZ hc;clear hc gq;dsimp only;go_wp2_with fail;refine(bAt _ (HE.out.mono HGW.out) _ HS1.out).mono ?_;rintro e v3 ⟨R1,r1,k1,B1,b1,rfl,gq⟩;have gx1:=gq.alloc (.cells #[.slice R1 k1 r1,.slice B1 1 b1] 43);replace HGW:=uZ (HGW.out.trans gx1);replace HS1:=uZ (HS1.out.mono gx1);replace HC:=uZ (HC.out.mono gx1);have HB1:=uZ (aO v3 (.cells #[.slice R1 k1 r1,.slice B1 1 b1] 43));clear gq gx1;obtain⟨v3x,hv3x⟩:∃ wx,v3.alloc (.cells #[.slice R1 k1 r1,.slice B1 1 b1] 43)=wx:=⟨_,rfl⟩
   rw[hv3x] at HGW HS1 HC HB1;obtain⟨T1,hT1⟩:∃ T,v3.heap.size=T:=⟨_,rfl⟩
   rw[hT1] at HB1;dsimp only;go_wp2_with fail;refine(bAv _ (HE.out.mono HGW.out) _ HS1.out).mono ?_;rintro e v4 ⟨n4,rfl,gq⟩;replace HGW:=uZ (HGW.out.trans gq);replace HS1:=uZ (HS1.out.mono gq);replace HC:=uZ (HC.out.mono gq);replace HB1:=uZ (aD gq HB1.out);clear gq;dsimp only;go_wp2_with fail;refine(bAy _ (HE.out.mono HGW.out) _ HS1.out).mono ?_;rintro e v5 ⟨A5,c5,rfl,h5,gq⟩;replace HGW:=uZ (HGW.out.trans gq);replace HS1:=uZ (HS1.out.mono gq);replace HC:=uZ (HC.out.mono gq);replace HB1:=uZ (aD gq HB1.out);have HS4:=uZ h5;clear h5 gq HS1;dsimp only;go_wp2_with fail;refine(bAs _ (HE.out.mono HGW.out) _ HS4.out).mono ?_;rintro e v6 ⟨R2,r2,k2,B2,b2,rfl,gq⟩;have gx2:=gq.alloc (.cells #[.slice R2 k2 r2,.slice B2 2 b2] 43);replace HGW:=uZ (HGW.out.trans gx2);replace HC:=uZ (HC.out.mono gx2);replace HB1:=uZ (aD gx2 HB1.out);replace HS4:=uZ (HS4.out.mono gx2);have HB2:=uZ (aO v6 (.cells #[.slice R2 k2 r2,.slice B2 2 b2] 43));clear gq gx2;obtain⟨v6x,hv6x⟩:∃ wx,v6.alloc (.cells #[.slice R2 k2 r2,.slice B2 2 b2] 43)=wx:=⟨_,rfl⟩
   rw[hv6x] at HGW HC HB1 HS4 HB2;obtain⟨T2,hT2⟩:∃ T,v6.heap.size=T:=⟨_,rfl⟩
   rw[hT2] at HB2;dsimp only;go_wp2_with fail;refine(bAu _ (HE.out.mono HGW.out) _ HS4.out).mono ?_;rintro e v7 ⟨n7,rfl,gq⟩;replace HGW:=uZ (HGW.out.trans gq);replace HC:=uZ (HC.out.mono gq);replace HB1:=uZ (aD gq HB1.out);replace HS4:=uZ (HS4.out.mono gq);replace HB2:=uZ (aD gq HB2.out);clear gq;dsimp only;go_wp2_with fail;refine(bAw _ (HE.out.mono HGW.out) _ HS4.out).mono ?_;rintro e v8 ⟨MA,mc,rfl,hm,gq⟩;replace HGW:=uZ (HGW.out.trans gq);replace HC:=uZ (HC.out.mono gq);replace HB1:=uZ (aD gq HB1.out);replace HS4:=uZ (HS4.out.mono gq);replace HB2:=uZ (aD gq HB2.out);have HM:=uZ hm;clear hm gq;dsimp only;go_wp2_with fail;refine(bDe _ (HE.out.mono HGW.out) _ HS4.out).mono ?_;rintro e v9 ⟨R3,r3,k3,B3,b3,rfl,gq⟩;have gx3:=gq.alloc (.cells #[.slice R3 k3 r3,.slice B3 2 b3] 43);replace HGW:=uZ (HGW.out.trans gx3);replace HC:=uZ (HC.out.mono gx3);replace HB1:=uZ (aD gx3 HB1.out);replace HS4:=uZ (HS4.out.mono gx3);replace HB2:=uZ (aD gx3 HB2.out);replace HM:=uZ (HM.out.mono gx3);have HB3:=uZ (aO v9 (.cells #[.slice R3 k3 r3,.slice B3 2 b3] 43));clear gq gx3;obtain⟨v9x,hv9x⟩:∃ wx,v9.alloc (.cells #[.slice R3 k3 r3,.slice B3 2 b3] 43)=wx:=⟨_,rfl⟩
   rw[hv9x] at HGW HC HB1 HS4 HB2 HM HB3;obtain⟨T3,hT3⟩:∃ T,v9.heap.size=T:=⟨_,rfl⟩
   rw[hT3] at HB3;dsimp only;go_wp2_with fail;refine(bDc _ (HE.out.mono HGW.out) _ HS4.out).mono ?_;rintro e va ⟨EA,ec,rfl,gq⟩;replace HGW:=uZ (HGW.out.trans gq);replace HC:=uZ (HC.out.mono gq);replace HB1:=uZ (aD gq HB1.out);replace HS4:=uZ (HS4.out.mono gq);replace HB2:=uZ (aD gq HB2.out);replace HM:=uZ (HM.out.mono gq);replace HB3:=uZ (aD gq HB3.out);clear gq;dsimp only;go_wp2_with fail;refine(bDd _ (HE.out.mono HGW.out) _ HS4.out).mono ?_;rintro e vb ⟨rfl,gq⟩;replace HGW:=uZ (HGW.out.trans gq);replace HC:=uZ (HC.out.mono gq);replace HB1:=uZ (aD gq HB1.out);replace HS4:=uZ (HS4.out.mono gq);replace HB2:=uZ (aD gq HB2.out);replace HM:=uZ (HM.out.mono gq);replace HB3:=uZ (aD gq HB3.out);clear gq HS4;dsimp only;go_wp2_with fail;refine(bCy _ vb vb HC.out (uX _)).mono ?_;rintro e vc ⟨rfl,gz⟩;have gq:=((uX vb).alloc (.cells #[.int .i64 1] 3)).trans gz;replace HGW:=uZ (HGW.out.trans gq);replace HB1:=uZ (aD gq HB1.out);replace HB2:=uZ (aD gq HB2.out);replace HM:=uZ (HM.out.mono gq);replace HB3:=uZ (aD gq HB3.out);clear gq gz HC;dsimp only;have t1:vc.cell? ⟨T1,1,none⟩=some (.slice B1 1 b1):=aC HB1.out rfl;have t2:vc.cell? ⟨T2,1,none⟩=some (.slice B2 2 b2):=aC HB2.out rfl;go_wp2_with fail;clear t1 t2;refine(bCx _ vc vc HM.out (uX _)).mono ?_;rintro e vd ⟨rfl,gz⟩;have gq:=((uX vc).alloc (.cells #[.string ⟨#[84]⟩,.int .i64 7] 62)).trans gz;replace HGW:=uZ (HGW.out.trans gq);replace HB1:=uZ (aD gq HB1.out);replace HB2:=uZ (aD gq HB2.out);replace HB3:=uZ (aD gq HB3.out);clear gq gz HM;dsimp only;have t3:vd.cell? ⟨T3,1,none⟩=some (.slice B3 2 b3):=aC HB3.out rfl;go_wp2;go_ret;exact⟨rfl,HGW.out⟩
end Go.Proofs.YtdochkemaiokfaaGreat
