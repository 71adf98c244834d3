/- Lemmas on what the functions of the program and of the library compute: Rf12S, Rf12Z, Rf13, Rf7, Rf14, PlainRd, Rg1, PlainRe. The conditions stand at each. -/
import Derived.Test.YtdochkemaiokfaaGreatQ37
import Derived.Deep.CutRange
import Derived.Deep.RegionHeld3
import Derived.Test.YtdochkemaiokfaaGreatQ36
import Derived.Test.YtdochkemaiokfaaGreatQ23
import Derived.Test.YtdochkemaiokfaaGreatQ9
import Derived.Test.YtdochkemaiokfaaGreatQ17
import Derived.Test.YtdochkemaiokfaaGreatQ30
set_option maxHeartbeats 16000000
set_option maxRecDepth 100000
set_option linter.all false
namespace Go.Proofs.YtdochkemaiokfaaGreat
open Go.RowKit
theorem h_206 {p:Prop} (h:p:=by
 exact(show(b != 0)=true from by simpa using Hbz.out)
):p:=h
theorem f_2 {p:Prop} (h:p:=by
 refine hK.out _ _ HS8.out (fun hHeld=>?_);clear hK K
 try simp only [Act.put,List.setIfInBounds_toArray,List.set_cons_zero,List.set_cons_succ]
 refine wpAnyH_ready (rs:=[9]) (by kernel_rfl) b_54 ?_;refine AllReadyH.cons rfl (fun K hK=>?_) AllReadyH.nil;go_simp
 (go_at_call 152;refine(Kst2.out w6.heap.size _ _ _ _ (HT.out.mono b_22) (SlI.mono HV8.out b_27) (aA.size b_22) HB8.out).mono ?_;rintro e w9 ⟨r9,b9,rfl,ht9,g9⟩;obtain⟨⟨A9,n9,k9,rfl⟩,B9,m9,l9,rfl⟩:=bK ht9.ok;have HT9:=uZ ht9;have G9:=uZ (show aA w6 w9 from uY b_22 g9);have HX9:=uZ (uK G9.out HX.out);obtain⟨t0,t1,t2,t3⟩:=aQ HX9.out;have HS9:=uZ (cX HS8.out g9);clear ht9 g9;dsimp only)
 refine hK.out _ _ HS9.out (fun hHeld=>?_);clear hK K
 try simp only [Act.put,List.setIfInBounds_toArray,List.set_cons_zero,List.set_cons_succ]
 refine wpAnyH_ready (rs:=[10]) (by kernel_rfl) b_54 ?_;refine AllReadyH.cons rfl (fun K hK=>?_) AllReadyH.nil;go_simp;refine hK.out _ _ (gQ HXO.out HS9.out) (fun hHeld=>?_);clear hK K
 try simp only [Act.put,List.setIfInBounds_toArray,List.set_cons_zero,List.set_cons_succ]
 refine wpAnyH_done (by kernel_rfl) ?_ _;go_wp2_with fail;go_meet;exact gS HX9.out HXL.out HXn.out (G56.out.trans G9.out) HT9.out
):p:=h
theorem e_1 {p:Prop} (h:p:=by
 go_wp2_with fail;clear r0 b0 a0 a1 a2 a6 a7 a8 a9 a10 a11 q0 q1 z0 z1;replace x0:=uQ ((uX w6).drew) x0;replace x1:=uQ ((uX w6).drew) x1;replace a3:=uQ ((uX w6).drew) a3;replace a4:=uQ ((uX w6).drew) a4;replace a5:=uQ ((uX w6).drew) a5;have HXn:RowKit.Hid (X<w6.heap.size):=uZ ((Array.getElem?_eq_some_iff.1 HX.out).1);go_cut [] from 88 to 98 (fun wx=>∃ r b,wx.heap[X]? = some (.cells #[r,b] 43 (0,0))∧aBn w6.heap.size wx r b T2∧aA w5 wx)
 case first =>
  refine wp_region_held_drew (S:=(fun W=>W.cell? ⟨w.heap.size+1,3,none⟩=some (.int .i64 u)∧W.cell? ⟨w.heap.size+1,4,none⟩=some (.int .i64 p)∧W.cell? ⟨w.heap.size+1,5,none⟩=some (.int .i64 b))) (by kernel_rfl) ⟨a3,a4,a5⟩ (fun hHeld=>?_);refine wpAnyH_take (i:=1) (v:=?_) rfl (by kernel_rfl) (by kernel_rfl) (by kernel_rfl) (fun _ _ _ h=>h) (Or.inl ⟨by rfl,?_⟩) b_51 ?_;rotate_left
  ((intro w hSw;(try dsimp only at hSw);go_simp);(try with_reducible rfl))
  try simp only [Act.put,List.setIfInBounds_toArray]
  refine wpAnyH_take (i:=2) (v:=?_) rfl (by kernel_rfl) (by kernel_rfl) (by kernel_rfl) (fun _ _ _ h=>h) (Or.inl ⟨by rfl,?_⟩) b_51 ?_;rotate_left
  ((intro w hSw;(try dsimp only at hSw);go_simp);(try with_reducible rfl))
  try simp only [Act.put]
  refine wpAnyH_take (i:=3) (v:=?_) rfl (by kernel_rfl) (by kernel_rfl) (by kernel_rfl) (fun _ _ _ h=>h) (Or.inl ⟨by rfl,?_⟩) b_51 ?_;rotate_left
  ((intro w hSw;(try dsimp only at hSw);go_simp);(try with_reducible rfl))
  try simp only [Act.put]
  refine wpAnyH_take (i:=4) (v:=?_) rfl (by kernel_rfl) (by kernel_rfl) (by kernel_rfl) (fun _ _ _ h=>h) (Or.inl ⟨by rfl,?_⟩) b_51 ?_;rotate_left
  ((intro w hSw;(try dsimp only at hSw);go_simp);(try with_reducible rfl))
  try simp only [Act.put]
  refine wpAnyH_take (i:=5) (v:=?_) rfl (by kernel_rfl) (by kernel_rfl) (by kernel_rfl) (fun _ _ _ h=>h) (Or.inl ⟨by rfl,?_⟩) b_51 ?_;rotate_left
  ((intro w hSw;(try dsimp only at hSw);go_simp);(try with_reducible rfl))
  try simp only [Act.put]
  refine wpAnyH_take (i:=6) (v:=?_) rfl (by kernel_rfl) (by kernel_rfl) (by kernel_rfl) (fun _ _ _ h=>h) (Or.inl ⟨by rfl,?_⟩) b_51 ?_;rotate_left
  ((intro w hSw;(try dsimp only at hSw);go_simp);(try with_reducible rfl))
  try simp only [Act.put]
  refine wpAnyH_take (i:=7) (v:=?_) rfl (by kernel_rfl) (by kernel_rfl) (by kernel_rfl) (fun _ _ _ h=>h) (Or.inl ⟨by rfl,?_⟩) b_51 ?_;rotate_left
  ((intro w hSw;(try dsimp only at hSw);go_simp);(try with_reducible rfl))
  try simp only [Act.put]
  have HXO:=uZ (show X≠w.heap.size+1 from fun e=>by have h1:w5.heap.size≤X:=HXL.out;have h2:=(Array.getElem?_eq_some_iff.1 (HB.out w5 G5.out).2).1;omega);refine wpAnyH_ready (rs:=[0,8]) (by kernel_rfl) b_54 ?_;refine AllReadyH.cons rfl (fun K hK=>?_) ?_
  ·go_simp
   refine hK.out _ _ ⟨a3,a4,a5⟩ (fun hHeld=>?_);clear hK K
   try simp only [Act.put,List.setIfInBounds_toArray,List.set_cons_zero,List.set_cons_succ]
   refine wpAnyH_ready (rs:=[8]) (by kernel_rfl) b_54 ?_;refine AllReadyH.cons rfl (fun K hK=>?_) AllReadyH.nil;go_simp
   (go_at_call 153;refine(Kpu.out _ _ (SlI.mono HV6.out b_27)).mono ?_;rintro e w8 ⟨v8,rfl,ho8,g8⟩;have G8:=uZ (show aA w6 w8 from uY b_27 g8);have HV8:=uZ (show SlI w8 v8 PUT from Rd.of_own ho8);have HB8:=uZ (show ∀ k,blk v8=some k→w6.heap.size≤k from fun k hk=>(ho8.lt k (iX hk)).1);have y0:=uQ g8 x0;have y1:=uQ g8 x1;have HS8:=uZ (cX ⟨a3,a4,a5⟩ g8);clear ho8 g8;dsimp only)
   exact f_2
  refine AllReadyH.cons rfl (fun K hK=>?_) AllReadyH.nil
  ·go_simp
   (go_at_call 153;refine(Kpu.out _ _ (SlI.mono HV6.out b_27)).mono ?_;rintro e w8 ⟨v8,rfl,ho8,g8⟩;have G8:=uZ (show aA w6 w8 from uY b_27 g8);have HV8:=uZ (show SlI w8 v8 PUT from Rd.of_own ho8);have HB8:=uZ (show ∀ k,blk v8=some k→w6.heap.size≤k from fun k hk=>(ho8.lt k (iX hk)).1);have y0:=uQ g8 x0;have y1:=uQ g8 x1;have HS8:=uZ (cX ⟨a3,a4,a5⟩ g8);clear ho8 g8;dsimp only)
   refine hK.out _ _ HS8.out (fun hHeld=>?_);clear hK K
   try simp only [Act.put,List.setIfInBounds_toArray,List.set_cons_zero,List.set_cons_succ]
   refine wpAnyH_ready (rs:=[0]) (by kernel_rfl) b_54 ?_;refine AllReadyH.cons rfl (fun K hK=>?_) AllReadyH.nil;go_simp;exact f_2
 case rest =>
  skip;obtain⟨rvT,bvT,hXT,hLT,hGT⟩:=hcut;obtain⟨⟨AT,nT,kT,rfl⟩,BT,mT,lT,rfl⟩:=bK hLT.ok;have HLT:=uZ hLT;have G7:=uZ (G5.out.trans hGT);have HG7:=uZ (GA.out.trans G7.out);obtain⟨t0,t1,-,-⟩:=aQ hXT;have hUT:=uK hGT HU5.out;obtain⟨u0,u1,u2,u3,u4⟩:=bW hUT;have f1:=nQ hUT 1;have hb5:=(Array.getElem?_eq_some_iff.1 HU5.out).1;have hb6:=G56.out.size;have hXl:=HXL.out;have hbl:=HBL.out;have HBn:=uZ (show BU<w6.heap.size by omega);have hWA:=(Array.getElem?_eq_some_iff.1 (HB.out WA (uX _)).2).1;have e0:¬ X=BU:=by omega
  have e1:¬ w.heap.size+1=BU:=by omega
  clear hXT hLT hGT hUT hb5 hb6 hXl hbl hWA a3 a4 a5 x0 x1;obtain⟨⟨r0,b0,a0,a1,a2,a3,a4,a5,a6,a7,a8,a9,a10,a11⟩,hR⟩:=HB.out _ G7.out;obtain⟨q0,q1,z0,z1⟩:=cL hR;have HR:=uZ hR;clear hR;go_wp2_with fail;refine(Kch.out _ _ _ _ _ _ _ _ (HLT.out.set ⟨BU,1,none⟩ _ HBn.out).ok).mono ?_;rintro e wN ⟨rvN,bvN,rfl,htN,gN⟩;obtain⟨⟨AN,nN,kN,rfl⟩,BN,mN,lN,rfl⟩:=bK htN;have HTN:=uZ htN;have GN:=uZ ((G7.out.setCell (p:=⟨BU,1,none⟩) HBL.out (.int .i64 p)).trans gN);have HGN:=uZ (GA.out.trans GN.out);clear r0 b0 a0 a1 a2 a3 a4 a5 a6 a7 a8 a9 a10 a11 q0 q1 z0 z1 HR htN gN t0 t1 u0 u1 u2 u3 u4 f1 e0 e1;obtain⟨⟨r0,b0,a0,a1,a2,a3,a4,a5,a6,a7,a8,a9,a10,a11⟩,hR⟩:=HB.out _ GN.out;obtain⟨q0,q1,z0,z1⟩:=cL hR;have HR:=uZ hR;clear hR;dsimp only;go_wp2_with fail;obtain⟨p0,p1⟩:=aK (v0:=(.slice AN nN kN)) (v1:=(.slice BN mN lN)) q0 q1;refine bodyPost_ret (v:=.tuple #[.agg #[.slice AN nN kN,.slice BN mN lN],.int .i64 0]) b_32 rfl ?_;exact dM HR.out b_53 HGN.out HTN.out
):p:=h
def zCt:=Unit
theorem zCt.g {p:Prop} (_:zCt) (h:p:=by
 dsimp only;have hbb:=h_206;have hX0:=HX.out;obtain⟨x0,x1,-,-⟩:=aQ hX0;clear hX0;go_wp2_with fail;refine(Kh2.out _ _ HV6.out).mono ?_;rintro e w7 ⟨rfl,rfl⟩;dsimp only;exact e_1
):p:=h
def zDo:=Unit
def zGy:=Unit
theorem zGy.g {p:Prop} (_:zGy) (h:p:=by
 go_cut [13] from 62 to 73 (fun s13 wx=>mO w5 (T1) s13 wx)
 case first =>
  exact e_5
 case rest =>
  skip;have nX:zCt:=()
  exact s_6
):p:=h
theorem zDo.g {p:Prop} (_:zDo) (h:p:=by
 have nX:zGy:=()
 exact s_39
):p:=h
theorem c_2 {p:Prop} (h:p:=by
 have nX:zDo:=()
 exact s_9
):p:=h
theorem h_200 {p:Prop} (h:p:=by
 exact(show(b != 0)=false from by simpa using Hbz.out)
):p:=h
def zCu:=Unit
theorem zCu.g {p:Prop} (_:zCu) (h:p:=by
 dsimp only;have hbb:=h_200;have hX0:=HX.out;obtain⟨x0,x1,-,-⟩:=aQ hX0;clear hX0;exact e_1
):p:=h
def zDp:=Unit
def zGz:=Unit
theorem zGz.g {p:Prop} (_:zGz) (h:p:=by
 go_cut [13] from 62 to 73 (fun s13 wx=>mO w5 (T1) s13 wx)
 case first =>
  exact e_5
 case rest =>
  skip;have nX:zCu:=()
  exact s_6
):p:=h
theorem zDp.g {p:Prop} (_:zDp) (h:p:=by
 have nX:zGz:=()
 exact s_39
):p:=h
theorem c_3 {p:Prop} (h:p:=by
 have nX:zDp:=()
 exact s_9
):p:=h
theorem h_24 {p:Prop} (h:p:=by
 exact fun n rx bx kv W (h:dF W rx bx (bB t o fb)) (hk:SlI W kv PUT) (hn:n≤W.heap.size) (hkn:∀ k,blk kv=some k→n≤k)=>lS n (bB t o fb) o.parent PUT rx bx kv W h.1 h.2 hf1.1 hf1.2 hk hn hkn
):p:=h
theorem h_49 {p:Prop} (h:p:=by
 exact fun ui up ul ut um rx bx W (h:dF W rx bx (iD (bB t o fb) o.parent PUT))=>fR (iD (bB t o fb) o.parent PUT) ui up ul ut um rx bx W h.1 h.2 hf2.1 hf2.2
):p:=h
theorem h_114 {p:Prop} (h:p:=by
 exact fun v W (h:SlI W v (aB (bB t o fb) o.parent))=>mV (aB (bB t o fb) o.parent) o.unit o.before v W h hkc
):p:=h
theorem h_159 {p:Prop} (h:p:=by
 exact(show(aB (bB t o fb) o.parent).length≤1000000 from dK hf1.1 hf1.2 o.parent)
):p:=h
theorem s_42 {p:Prop} (h:p:=by
 obtain⟨fi,fp,fl,ft,fm,fk⟩:=fb;unfold Opn.agg;unfold Opn.cells at HBX;dsimp only at HBX kF kG kB kH kL kcp kwo kst kc2 kh2 hbz kpu kst2 kch ⊢;have KF:=uZ kF;have KG:=uZ kG;have KB:=uZ kB;have KH:=uZ kH;have KL:=uZ kL;have Kcp:=uZ kcp;have Kwo:=uZ kwo;have Kst:=uZ kst;have Kc2:=uZ kc2;have Kh2:=uZ kh2;have Hbz:=uZ hbz;have Kpu:=uZ kpu;have Kst2:=uZ kst2;have Kch:=uZ kch;clear kF kG kB kH kL kcp kwo kst kc2 kh2 hbz kpu kst2 kch;have GA:=h_8;have HB:=h_137;clear HBX;go_enter Tryz.func102,Tryz.ntmps102;exact nX.g
):p:=h
theorem gQ {W:World} {X Y:Nat} {j0 j1 j2:Nat} {x y z u v:Value} (hne:X≠Y) (h:W.cell? ⟨Y,j0,none⟩=some x∧W.cell? ⟨Y,j1,none⟩=some y∧W.cell? ⟨Y,j2,none⟩=some z):((W.setCell ⟨X,0,none⟩ u).setCell ⟨X,1,none⟩ v).cell? ⟨Y,j0,none⟩=some x∧((W.setCell ⟨X,0,none⟩ u).setCell ⟨X,1,none⟩ v).cell? ⟨Y,j1,none⟩=some y∧((W.setCell ⟨X,0,none⟩ u).setCell ⟨X,1,none⟩ v).cell? ⟨Y,j2,none⟩=some z:=by
 have key:∀ j,((W.setCell ⟨X,0,none⟩ u).setCell ⟨X,1,none⟩ v).cell? ⟨Y,j,none⟩=W.cell? ⟨Y,j,none⟩:=fun j=>by
  rw[uV _ _ _ _ (aBf hne),uV _ _ _ _ (aBf hne)]
 rw[key,key,key];exact h
theorem gS {n:Nat} {W0 W:World} {X:Nat} {T:Tr} {rv bv r0 b0:Value} (hX:W.heap[X]? = some (.cells #[r0,b0] 43 (0,0))) (hlo:W0.heap.size≤X) (hXn:X<n) (hG:aA W0 W) (h:aBn n W rv bv T):∃ r b,((W.setCell ⟨X,0,none⟩ rv).setCell ⟨X,1,none⟩ bv).heap[X]? = some (.cells #[r,b] 43 (0,0))∧aBn n ((W.setCell ⟨X,0,none⟩ rv).setCell ⟨X,1,none⟩ bv) r b T∧aA W0 ((W.setCell ⟨X,0,none⟩ rv).setCell ⟨X,1,none⟩ bv):=by
 have k1:=heap_setCell_same W X 0 #[r0,b0] 43 rv hX;have k2:(W.setCell ⟨X,0,none⟩ rv).heap[X]? = some (.cells #[rv,b0] 43 (0,0)):=by simpa using k1
 have k3:=heap_setCell_same (W.setCell ⟨X,0,none⟩ rv) X 1 #[rv,b0] 43 bv k2;exact⟨rv,bv,by simpa using k3,(h.set ⟨X,0,none⟩ rv hXn).set ⟨X,1,none⟩ bv hXn,(hG.setCell hlo _).setCell hlo _⟩
def zAl:=Unit
def zC5:=Unit
def zD1:=Unit
def zGq:=Unit
theorem zGq.g {p:Prop} (_:zGq) (h:p:=by
 exact c_3
):p:=h
theorem zD1.g {p:Prop} (_:zD1) (h:p:=by
 generalize w1.heap.size=BU at HU2 HBL ⊢;have nX:zGq:=()
 exact s_37
):p:=h
def zF7:=Unit
theorem zF7.g {p:Prop} (_:zF7) (h:p:=by
 have nX:zD1:=()
 exact s_10
):p:=h
theorem zC5.g {p:Prop} (_:zC5) (h:p:=by
 have HBL:=uZ g1.size;have nX:zF7:=()
 exact s_31
):p:=h
theorem zAl.g {p:Prop} (_:zAl) (h:p:=by
 obtain⟨pi,pp,pl,pt,pm,pk⟩:=pq;refine(KF.out _ GA.out).mono ?_;rintro e w1 ⟨rfl,g1⟩;have G1:=h_128;have HG1:=h_225;have HBU:=h_106;have nX:zC5:=()
 exact s_7
):p:=h
def zB2:=Unit
def zG5:=Unit
theorem zG5.g {p:Prop} (_:zG5) (h:p:=by
 have nX:zAl:=()
 exact s_1
):p:=h
theorem zB2.g {p:Prop} (_:zB2) (h:p:=by
 have nX:zG5:=()
 exact s_42
):p:=h
def zCp:=Unit
def zGu:=Unit
theorem zGu.g {p:Prop} (_:zGu) (h:p:=by
 have nX:zB2:=()
 exact s_4
):p:=h
theorem zCp.g {p:Prop} (_:zCp) (h:p:=by
 have hkc:=h_159;have kpu:=h_114;rw[hpu] at kpu;have kst2:=h_24;have hf2:=pG hf1.1 hf1.2 o.parent hpl;have kch:=h_49;clear hkc hf2 hpu hpl;generalize iD (bB t o fb) o.parent PUT=T2 at kst2 kch ⊢;clear hf1 hkl hc hl ho hT hm hp;have nX:zGu:=()
 exact s_38
):p:=h
def zFk:=Unit
theorem zFk.g {p:Prop} (_:zFk) (h:p:=by
 have nX:zCp:=()
 exact s_5
):p:=h
theorem zH (t:Tr) (o:Opn) (rv bv:Value) (w:World) (hr:SlI w rv t.roots) (hv:bQ w bv t.brs) (hf:cF t.brs) (hrl:t.roots.length≤1000000) (hT:aM t) (hm:∀ i (h:i<t.brs.length),t.brs[i].mark.size≤9223372036854775807) {fb:Br} (ho:aE t.brs o.unit=some fb) {pq:Br} (hp:aE t.brs o.parent=some pq) (hc:o.parent∉bA t o.unit) (hl:mZ t o.parent fb.level=0) (hbz:o.before=0) {PUT:List Int} (hpu:mW o.unit o.before (aB (bB t o fb) o.parent)++(if o.before=0 then[o.unit] else[])=PUT) (hpl:PUT.length≤1000000):Calls Tryz.prog 102 #[.agg #[rv,bv],o.agg] w (bU (chG (iD (bB t o fb) o.parent PUT) { fb with parent:=o.parent },0) w):=by
 have nX:zFk:=()
 exact s_24
def zAm:=Unit
def zC6:=Unit
def zD2:=Unit
def zGr:=Unit
theorem zGr.g {p:Prop} (_:zGr) (h:p:=by
 exact c_2
):p:=h
theorem zD2.g {p:Prop} (_:zD2) (h:p:=by
 generalize w1.heap.size=BU at HU2 HBL ⊢;have nX:zGr:=()
 exact s_37
):p:=h
def zF8:=Unit
theorem zF8.g {p:Prop} (_:zF8) (h:p:=by
 have nX:zD2:=()
 exact s_10
):p:=h
theorem zC6.g {p:Prop} (_:zC6) (h:p:=by
 have HBL:=uZ g1.size;have nX:zF8:=()
 exact s_31
):p:=h
theorem zAm.g {p:Prop} (_:zAm) (h:p:=by
 obtain⟨pi,pp,pl,pt,pm,pk⟩:=pq;refine(KF.out _ GA.out).mono ?_;rintro e w1 ⟨rfl,g1⟩;have G1:=h_128;have HG1:=h_225;have HBU:=h_106;have nX:zC6:=()
 exact s_7
):p:=h
def zB3:=Unit
def zG6:=Unit
theorem zG6.g {p:Prop} (_:zG6) (h:p:=by
 have nX:zAm:=()
 exact s_1
):p:=h
theorem zB3.g {p:Prop} (_:zB3) (h:p:=by
 have nX:zG6:=()
 exact s_42
):p:=h
def zCq:=Unit
def zGv:=Unit
theorem zGv.g {p:Prop} (_:zGv) (h:p:=by
 have nX:zB3:=()
 exact s_4
):p:=h
theorem zCq.g {p:Prop} (_:zCq) (h:p:=by
 rw[decide_eq_true hbz.2] at kh2;replace hbz:=hbz.1;have hkc:=h_159;have kpu:=h_114;rw[hpu] at kpu;have kst2:=h_24;have hf2:=pG hf1.1 hf1.2 o.parent hpl;have kch:=h_49;clear hkc hf2 hpu hpl;generalize iD (bB t o fb) o.parent PUT=T2 at kst2 kch ⊢;clear hf1 hkl hc hl ho hT hm hp;have nX:zGv:=()
 exact s_38
):p:=h
def zFl:=Unit
theorem zFl.g {p:Prop} (_:zFl) (h:p:=by
 have nX:zCq:=()
 exact s_5
):p:=h
theorem zI (t:Tr) (o:Opn) (rv bv:Value) (w:World) (hr:SlI w rv t.roots) (hv:bQ w bv t.brs) (hf:cF t.brs) (hrl:t.roots.length≤1000000) (hT:aM t) (hm:∀ i (h:i<t.brs.length),t.brs[i].mark.size≤9223372036854775807) {fb:Br} (ho:aE t.brs o.unit=some fb) {pq:Br} (hp:aE t.brs o.parent=some pq) (hc:o.parent∉bA t o.unit) (hl:mZ t o.parent fb.level=0) (hbz:o.before≠0∧o.before∈aB (bB t o fb) o.parent) {PUT:List Int} (hpu:mW o.unit o.before (aB (bB t o fb) o.parent)++(if o.before=0 then[o.unit] else[])=PUT) (hpl:PUT.length≤1000000):Calls Tryz.prog 102 #[.agg #[rv,bv],o.agg] w (bU (chG (iD (bB t o fb) o.parent PUT) { fb with parent:=o.parent },0) w):=by
 have nX:zFl:=()
 exact s_24
theorem s_41 {p:Prop} (h:p:=by
 obtain⟨fi,fp,fl,ft,fm,fk⟩:=fb;unfold Opn.agg;unfold Opn.cells at HBX;dsimp only at HBX kF kG kB hp kH kL kcp kwo kst kc2 kh2 hbz kpu kst2 kch ⊢;have KF:=uZ kF;have KG:=uZ kG;have KB:=uZ kB;have Hp:=uZ hp;have KH:=uZ kH;have KL:=uZ kL;have Kcp:=uZ kcp;have Kwo:=uZ kwo;have Kst:=uZ kst;have Kc2:=uZ kc2;have Kh2:=uZ kh2;have Hbz:=uZ hbz;have Kpu:=uZ kpu;have Kst2:=uZ kst2;have Kch:=uZ kch;clear kF kG kB hp kH kL kcp kwo kst kc2 kh2 hbz kpu kst2 kch;have GA:=h_8;have HB:=h_137;clear HBX;go_enter Tryz.func102,Tryz.ntmps102;exact nX.g
):p:=h
def zAn:=Unit
def zC7:=Unit
def zD3:=Unit
def zGc:=Unit
theorem zGc.g {p:Prop} (_:zGc) (h:p:=by
 exact c_3
):p:=h
theorem zD3.g {p:Prop} (_:zD3) (h:p:=by
 generalize w1.heap.size=BU at HU2 HBL ⊢;have nX:zGc:=()
 exact s_32
):p:=h
def zFp:=Unit
theorem zFp.g {p:Prop} (_:zFp) (h:p:=by
 have nX:zD3:=()
 exact s_10
):p:=h
theorem zC7.g {p:Prop} (_:zC7) (h:p:=by
 have HBL:=uZ g1.size;have nX:zFp:=()
 exact s_25
):p:=h
theorem zAn.g {p:Prop} (_:zAn) (h:p:=by
 refine(KF.out _ GA.out).mono ?_;rintro e w1 ⟨rfl,g1⟩;have G1:=h_128;have HG1:=h_225;have HBU:=h_106;have nX:zC7:=()
 exact s_7
):p:=h
def zB4:=Unit
def zG3:=Unit
theorem zG3.g {p:Prop} (_:zG3) (h:p:=by
 have nX:zAn:=()
 exact s_1
):p:=h
theorem zB4.g {p:Prop} (_:zB4) (h:p:=by
 have nX:zG3:=()
 exact s_41
):p:=h
def zCr:=Unit
def zGw:=Unit
theorem zGw.g {p:Prop} (_:zGw) (h:p:=by
 have nX:zB4:=()
 exact s_4
):p:=h
theorem zCr.g {p:Prop} (_:zCr) (h:p:=by
 have hkc:=h_159;have kpu:=h_114;rw[hpu] at kpu;have kst2:=h_24;have hf2:=pG hf1.1 hf1.2 o.parent hpl;have kch:=h_49;clear hkc hf2 hpu hpl;generalize iD (bB t o fb) o.parent PUT=T2 at kst2 kch ⊢;clear hf1 hkl hc hl ho hT hm hn;have nX:zGw:=()
 exact s_38
):p:=h
def zFd:=Unit
theorem zFd.g {p:Prop} (_:zFd) (h:p:=by
 have nX:zCr:=()
 exact s_5
):p:=h
theorem zF (t:Tr) (o:Opn) (rv bv:Value) (w:World) (hr:SlI w rv t.roots) (hv:bQ w bv t.brs) (hf:cF t.brs) (hrl:t.roots.length≤1000000) (hT:aM t) (hm:∀ i (h:i<t.brs.length),t.brs[i].mark.size≤9223372036854775807) {fb:Br} (ho:aE t.brs o.unit=some fb) (hp:o.parent=0) (hn:aE t.brs o.parent=none) (hc:o.parent∉bA t o.unit) (hl:mZ t o.parent fb.level=0) (hbz:o.before=0) {PUT:List Int} (hpu:mW o.unit o.before (aB (bB t o fb) o.parent)++(if o.before=0 then[o.unit] else[])=PUT) (hpl:PUT.length≤1000000):Calls Tryz.prog 102 #[.agg #[rv,bv],o.agg] w (bU (chG (iD (bB t o fb) o.parent PUT) { fb with parent:=o.parent },0) w):=by
 have nX:zFd:=()
 exact s_22
def zAo:=Unit
def zC8:=Unit
def zD4:=Unit
def zGd:=Unit
theorem zGd.g {p:Prop} (_:zGd) (h:p:=by
 exact c_2
):p:=h
theorem zD4.g {p:Prop} (_:zD4) (h:p:=by
 generalize w1.heap.size=BU at HU2 HBL ⊢;have nX:zGd:=()
 exact s_32
):p:=h
def zFq:=Unit
theorem zFq.g {p:Prop} (_:zFq) (h:p:=by
 have nX:zD4:=()
 exact s_10
):p:=h
theorem zC8.g {p:Prop} (_:zC8) (h:p:=by
 have HBL:=uZ g1.size;have nX:zFq:=()
 exact s_25
):p:=h
theorem zAo.g {p:Prop} (_:zAo) (h:p:=by
 refine(KF.out _ GA.out).mono ?_;rintro e w1 ⟨rfl,g1⟩;have G1:=h_128;have HG1:=h_225;have HBU:=h_106;have nX:zC8:=()
 exact s_7
):p:=h
def zB5:=Unit
def zG4:=Unit
theorem zG4.g {p:Prop} (_:zG4) (h:p:=by
 have nX:zAo:=()
 exact s_1
):p:=h
theorem zB5.g {p:Prop} (_:zB5) (h:p:=by
 have nX:zG4:=()
 exact s_41
):p:=h
def zCs:=Unit
def zGx:=Unit
theorem zGx.g {p:Prop} (_:zGx) (h:p:=by
 have nX:zB5:=()
 exact s_4
):p:=h
theorem zCs.g {p:Prop} (_:zCs) (h:p:=by
 rw[decide_eq_true hbz.2] at kh2;replace hbz:=hbz.1;have hkc:=h_159;have kpu:=h_114;rw[hpu] at kpu;have kst2:=h_24;have hf2:=pG hf1.1 hf1.2 o.parent hpl;have kch:=h_49;clear hkc hf2 hpu hpl;generalize iD (bB t o fb) o.parent PUT=T2 at kst2 kch ⊢;clear hf1 hkl hc hl ho hT hm hn;have nX:zGx:=()
 exact s_38
):p:=h
def zFe:=Unit
theorem zFe.g {p:Prop} (_:zFe) (h:p:=by
 have nX:zCs:=()
 exact s_5
):p:=h
theorem zG (t:Tr) (o:Opn) (rv bv:Value) (w:World) (hr:SlI w rv t.roots) (hv:bQ w bv t.brs) (hf:cF t.brs) (hrl:t.roots.length≤1000000) (hT:aM t) (hm:∀ i (h:i<t.brs.length),t.brs[i].mark.size≤9223372036854775807) {fb:Br} (ho:aE t.brs o.unit=some fb) (hp:o.parent=0) (hn:aE t.brs o.parent=none) (hc:o.parent∉bA t o.unit) (hl:mZ t o.parent fb.level=0) (hbz:o.before≠0∧o.before∈aB (bB t o fb) o.parent) {PUT:List Int} (hpu:mW o.unit o.before (aB (bB t o fb) o.parent)++(if o.before=0 then[o.unit] else[])=PUT) (hpl:PUT.length≤1000000):Calls Tryz.prog 102 #[.agg #[rv,bv],o.agg] w (bU (chG (iD (bB t o fb) o.parent PUT) { fb with parent:=o.parent },0) w):=by
 have nX:zFe:=()
 exact s_22
def aQu (t:Tr) (o:Opn):Tr × Int:=match aE t.brs o.unit with
 | none=>(t,7)
 | some fb=>if eI t o=0 then(jM t o fb,0) else(t,eI t o)
theorem vE {t:Tr} {p n:Int} (h:p=0∨∃ b∈t.brs,b.id=p):mZ t p n=if dC t p n=true then 0 else 18:=by
 unfold mZ dC;by_cases hp:p=0
 ·rw[if_pos hp,if_pos hp]
  by_cases hn:n=1
  ·rw[if_pos hn,if_pos (by simpa using hn)]
  ·rw[if_neg hn,if_neg (by simpa using hn)]
 ·rw[if_neg hp,if_neg hp]
  cases hb:aE t.brs p with
  | none=>exact absurd (qZ h) (by rw[hb];simp[hp])
  | some b=>rfl
theorem vC {t:Tr} {o:Opn} {fb:Br} (hT:aM t) (ho:aE t.brs o.unit=some fb) (hpar:o.parent=0∨∃ b∈t.brs,b.id=o.parent) (Q:Tr × Int→Prop)
  (c1:o.parent∈bA t o.unit→Q (t,17))
  (c2:o.parent∉bA t o.unit→∀ n,mZ t o.parent fb.level=n→n≠0→Q (t,n))
  (c3:o.parent∉bA t o.unit→mZ t o.parent fb.level=0→o.before≠0→o.before∉aB (bB t o fb) o.parent→Q (t,7))
  (c4:o.parent∉bA t o.unit→mZ t o.parent fb.level=0→o.before=0→∀ PUT,mW o.unit o.before (aB (bB t o fb) o.parent)++(if o.before=0 then[o.unit] else[])=PUT→PUT.length≤1000000→Q (chG (iD (bB t o fb) o.parent PUT) { fb with parent:=o.parent },0))
  (c5:o.parent∉bA t o.unit→mZ t o.parent fb.level=0→o.before≠0∧o.before∈aB (bB t o fb) o.parent→∀ PUT,mW o.unit o.before (aB (bB t o fb) o.parent)++(if o.before=0 then[o.unit] else[])=PUT→PUT.length≤1000000→Q (chG (iD (bB t o fb) o.parent PUT) { fb with parent:=o.parent },0)):Q (aQu t o):=by
 have hs:=bL hT
 have hF:eI t o=if o.parent∈bA t o.unit then 17 else if dC t o.parent fb.level=false then 18 else if o.before≠0∧(o.before=o.unit∨o.before∉aB t o.parent) then 7 else 0:=by
  unfold eI;rw[ho];dsimp only;rw[if_neg (qZ hpar)]
 have hM:aQu t o=if eI t o=0 then(jM t o fb,0) else(t,eI t o):=by
  unfold aQu;rw[ho]
 have hL:=vE (n:=fb.level) hpar;have hc:=qR hs ho hpar;have hmem:o.before∈aB (bB t o fb) o.parent↔o.before∈aB t o.parent∧o.before≠o.unit:=by rw[hc];exact eQ _ _ _
 obtain⟨hnd,h0⟩:=aAv hs hpar
 have hput:mW o.unit o.before (aB (bB t o fb) o.parent)++(if o.before=0 then[o.unit] else[])=iL o.unit o.before (aI o.unit (aB t o.parent)):=by
  rw[hc];exact(aCn (iN _ hnd) (fun hm=>h0 ((eQ _ _ _).1 hm).1)).symm
 have hlen:(iL o.unit o.before (aI o.unit (aB t o.parent))).length≤1000000:=by
  have h1:=wQ.putF_le o.unit o.before (aI o.unit (aB t o.parent));have h2:(aI o.unit (aB t o.parent)).length≤(aB t o.parent).length:=List.length_filter_le _ _;have h3:=nA (((bX t).1 hs).2 o.parent hpar);have h4:=hs.len;omega
 have hend:=aQp hs ho hpar;rw[hM];by_cases e1:o.parent∈bA t o.unit
 ·rw[hF,if_pos e1]
  exact c1 e1
 rw[if_neg e1] at hF
 cases e2:dC t o.parent fb.level with
 | false =>
  rw[e2] at hF hL;rw[hF];exact c2 e1 18 hL b_52
 | true =>
  rw[e2,if_neg b_52] at hF;rw[e2,if_pos rfl] at hL;by_cases e3:o.before=0
  ·rw[if_neg (fun h=>h.1 e3)] at hF
   rw[hF,if_pos rfl,← hend];exact c4 e1 hL e3 _ hput hlen
  ·by_cases e4:o.before∈aB (bB t o fb) o.parent
   ·rw[if_neg (fun h=>by
     obtain⟨k1,k2⟩:=hmem.1 e4;rcases h.2 with h|h
     ·exact k2 h
     ·exact h k1)] at hF
    rw[hF,if_pos rfl,← hend];exact c5 e1 hL ⟨e3,e4⟩ _ hput hlen
   ·rw[if_pos ⟨e3,by
     by_cases k:o.before=o.unit
     ·exact .inl k
     ·exact .inr fun hm=>e4 (hmem.2 ⟨hm,k⟩)⟩] at hF
    rw[hF,if_neg b_52];exact c3 e1 hL e3 e4
theorem aUu (t:Tr) (o:Opn) (rv bv:Value) (w:World) (hr:SlI w rv t.roots) (hv:bQ w bv t.brs) (hf:cF t.brs) (hrl:t.roots.length≤1000000) (hT:aM t) (hm:∀ i (h:i<t.brs.length),t.brs[i].mark.size≤9223372036854775807) :
  Calls Tryz.prog 102 #[.agg #[rv,bv],o.agg] w (bU (aQu t o) w):=by
 cases ho:aE t.brs o.unit with
 | none =>
  have:=aKh t o rv bv w hr hv ho;unfold aQu;rw[ho];exact this
 | some fb =>
  by_cases hp:o.parent=0
  ·have hn:aE t.brs o.parent=none:=by
    rw[hp];exact(fE 0).2 (qE (bL hT))
   exact vC hT ho (.inl hp) (fun R=>Calls Tryz.prog 102 #[.agg #[rv,bv],o.agg] w (bU R w))
    (fun h1=>aCe t o rv bv w hr hv hf hrl hT hm ho hp hn h1) (fun h1 n h2 h3=>aCc t o rv bv w hr hv hf hrl hT hm ho hp hn h1 h2 h3)
    (fun h1 h2 h3 h4=>aCg t o rv bv w hr hv hf hrl hT hm ho hp hn h1 h2 h3 h4) (fun h1 h2 h3 P h4 h5=>zF t o rv bv w hr hv hf hrl hT hm ho hp hn h1 h2 h3 h4 h5) (fun h1 h2 h3 P h4 h5=>zG t o rv bv w hr hv hf hrl hT hm ho hp hn h1 h2 h3 h4 h5)
  ·cases hq:aE t.brs o.parent with
   | none =>
    have:=aGx t o rv bv w hr hv ho hp hq
    have hF:eI t o=7:=by
     unfold eI;rw[ho];dsimp only;rw[if_pos ⟨hp,by rw[hq];rfl⟩]
    unfold aQu;rw[ho,hF];exact this
   | some pq =>
    have hin:=bE hq
    exact vC hT ho (.inr ⟨pq,hin.1,hin.2⟩) (fun R=>Calls Tryz.prog 102 #[.agg #[rv,bv],o.agg] w (bU R w))
     (fun h1=>aCf t o rv bv w hr hv hf hrl hT hm ho hq h1) (fun h1 n h2 h3=>aCd t o rv bv w hr hv hf hrl hT hm ho hq h1 h2 h3)
     (fun h1 h2 h3 h4=>aCh t o rv bv w hr hv hf hrl hT hm ho hq h1 h2 h3 h4) (fun h1 h2 h3 P h4 h5=>zH t o rv bv w hr hv hf hrl hT hm ho hq h1 h2 h3 h4 h5) (fun h1 h2 h3 P h4 h5=>zI t o rv bv w hr hv hf hrl hT hm ho hq h1 h2 h3 h4 h5)
theorem c_31 {p:Prop} (h:p:=by
 have HLB:=uZ hlo;dsimp only;clear hWA hga hlo;go_wp2_with fail;refine(KCH.out _ _ _ _ _ _ (HG2.out.setCell (Nat.le_trans GA.out.size HLB.out) _)).mono ?_;rintro e w3 ⟨rv3,bv3,rfl,ht3,g3⟩;obtain⟨⟨A3,n3,k3,rfl⟩,B3,m3,l3,rfl⟩:=bK ht3;have HT3:=uZ ht3;have G3:=uZ ((G2.out.setCell (p:=⟨BU,4,none⟩) HLB.out (.string m)).trans g3);have HG3:=h_227;clear r0 b0 a0 a1 a2 a3 a4 a5 a6 a7 a8 a9 a10 a11 q0 q1 z0 z1 HR u0 u1 u2 u3 u4 f4 ht3 g3 e0 e1;obtain⟨⟨r0,b0,a0,a1,a2,a3,a4,a5,a6,a7,a8,a9,a10,a11⟩,hR⟩:=HB.out _ G3.out;obtain⟨q0,q1,z0,z1⟩:=cL hR;have HR:=uZ hR;clear hR;dsimp only;go_wp2_with fail;obtain⟨p0,p1⟩:=aK (v0:=(.slice A3 n3 k3)) (v1:=(.slice B3 m3 l3)) q0 q1;refine bodyPost_ret (v:=.tuple #[.agg #[.slice A3 n3 k3,.slice B3 m3 l3],.int .i64 0]) b_33 rfl ?_;exact dM HR.out b_53 HG3.out HT3.out
):p:=h
theorem h_119 {p:Prop} (h:p:=by
 exact uZ (fun W ui up ul ut um (hW:aA w W)=>fR t ui up ul ut um rv bv W (hr.mono hW) (hv.mono hW) hf hrl)
):p:=h
theorem h_177 {p:Prop} (h:p:=by
 exact fun W (hW:aA w W)=>gA t.brs o.mark rv bv W (hv.mono hW)
):p:=h
theorem s_48 {p:Prop} (h:p:=by
 have hB:=aF (a:=w1) (p:=(.cells #[.int .i64 fi,.int .i64 fp,.int .i64 fl,.string ft,.string fm] 64)) rfl;clear g1;dsimp only;have hkb:(k == 3)=false:=by simpa using Hk.out
 go_wp2_with fail;refine(KM.out _ HG1.out).mono ?_;rintro e w2 ⟨rfl,g2⟩;have G2:=h_231;have HG2:=h_226;replace hB:=uK g2 hB;obtain⟨u0,u1,u2,u3,u4⟩:=bW hB;have f4:=nQ hB 4;have hlo:=HLO.out;have hga:=GA.out.size;clear r0 b0 a0 a1 a2 a3 a4 a5 a6 a7 a8 a9 a10 a11 q0 q1 z0 z1 HR;clear g2 hB;exact nX.g
):p:=h
def zAp:=Unit
def zEu:=Unit
theorem zEu.g {p:Prop} (_:zEu) (h:p:=by
 refine bodyPost_ret (v:=.tuple #[.agg #[.slice Ar t.roots.length cr,.slice Ab t.brs.length cb],.int .i64 7]) b_33 rfl ?_;exact dM HR.out b_53 HG1.out (HTT.out _ HG1.out)
):p:=h
theorem zAp.g {p:Prop} (_:zAp) (h:p:=by
 have nX:zEu:=()
 exact s_16
):p:=h
def zEx:=Unit
theorem zEx.g {p:Prop} (_:zEx) (h:p:=by
 go_enter Tryz.func104,Tryz.ntmps104;have nX:zAp:=()
 exact s_1
):p:=h
theorem aGz (t:Tr) (o:Opn) (rv bv:Value) (w:World) (hr:SlI w rv t.roots) (hv:bQ w bv t.brs) (ho:aE t.brs o.unit=none):Calls Tryz.prog 104 #[.agg #[rv,bv],o.agg] w (bU (t,7) w):=by
 have nX:zEx:=()
 exact s_17
def zAq:=Unit
def zC9:=Unit
def zD5:=Unit
theorem zD5.g {p:Prop} (_:zD5) (h:p:=by
 dsimp only;go_wp2_with fail;obtain⟨p0,p1⟩:=aK (v0:=(.slice A2 n2 k2)) (v1:=(.slice B2 m2 l2)) q0 q1;refine bodyPost_ret (v:=.tuple #[.agg #[.slice A2 n2 k2,.slice B2 m2 l2],.int .i64 0]) b_33 rfl ?_;exact dM HR.out b_53 HG2.out HT2.out
):p:=h
theorem zC9.g {p:Prop} (_:zC9) (h:p:=by
 clear g1;dsimp only;have hkb:(k == 3)=true:=by simpa using Hk.out
 obtain⟨⟨r0y,b0y,a0y,a1y,a2y,a3y,a4y,a5y,a6y,a7y,a8y,a9y,a10y,a11y⟩,hRy⟩:=HB.out _ (G0.out.alloc (.cells #[.int .i64 fi,.int .i64 fp,.int .i64 fl,.string tt,.string fm] 64));obtain⟨q0y,q1y,z0y,z1y⟩:=cL hRy;have HRy:=uZ hRy;clear hRy;go_wp2_with fail;refine(KCH.out _ _ _ _ _ _ (GA.out.trans (G0.out.alloc _))).mono ?_;rintro e w2 ⟨rv2,bv2,rfl,ht2,g2⟩;obtain⟨⟨A2,n2,k2,rfl⟩,B2,m2,l2,rfl⟩:=bK ht2;have HT2:=uZ ht2;have G2:=uZ ((G0.out.alloc (.cells #[.int .i64 fi,.int .i64 fp,.int .i64 fl,.string tt,.string fm] 64)).trans g2);have HG2:=h_226;clear r0 b0 a0 a1 a2 a3 a4 a5 a6 a7 a8 a9 a10 a11 q0 q1 z0 z1 HR;clear r0y b0y a0y a1y a2y a3y a4y a5y a6y a7y a8y a9y a10y a11y q0y q1y z0y z1y HRy;clear ht2 g2;have nX:zD5:=()
 exact s_10
):p:=h
theorem zAq.g {p:Prop} (_:zAq) (h:p:=by
 refine(KF.out _ GA.out).mono ?_;rintro e w1 ⟨rfl,g1⟩;have G1:=h_128;have HG1:=h_225;have G0:=uZ g1;have nX:zC9:=()
 exact s_7
):p:=h
def zB6:=Unit
theorem zB6.g {p:Prop} (_:zB6) (h:p:=by
 obtain⟨fi,fp,fl,ft,fm,fk⟩:=fb;unfold Opn.agg;unfold Opn.cells at HBX;dsimp only at HBX kF ho hk ⊢;have KF:=uZ kF;have Ho:=uZ ho;have Hk:=uZ hk;clear kF ho hk;have GA:=h_8;have HB:=h_137;clear HBX;go_enter Tryz.func104,Tryz.ntmps104;have nX:zAq:=()
 exact s_1
):p:=h
theorem aKl (t:Tr) (o:Opn) (rv bv:Value) (w:World) (hr:SlI w rv t.roots) (hv:bQ w bv t.brs) (hf:cF t.brs) (hrl:t.roots.length≤1000000) {fb:Br} (ho:aE t.brs o.unit=some fb) (hk:o.kind=3):Calls Tryz.prog 104 #[.agg #[rv,bv],o.agg] w (bU (chG t { fb with title:=o.title },0) w):=by
 have HTT:=h_160;have kF:=h_176;rw[ho] at kF;unfold aY at kF;dsimp only [Option.getD_some,Option.isSome_some] at kF;have KCH:=h_119;have nX:zB6:=()
 exact s_4
def zAr:=Unit
def zDa:=Unit
def zD6:=Unit
def zHo:=Unit
theorem zHo.g {p:Prop} (_:zHo) (h:p:=by
 refine bodyPost_ret (v:=.tuple #[.agg #[.slice Ar t.roots.length cr,.slice Ab t.brs.length cb],.int .i64 19]) b_33 rfl ?_;exact dM HR.out b_53 HG2.out (HTT.out _ HG2.out)
):p:=h
theorem zD6.g {p:Prop} (_:zD6) (h:p:=by
 have hxb:(x.id != u)=true:=by simpa using Hxu.out
 dsimp only;have nX:zHo:=()
 exact s_49
):p:=h
theorem zDa.g {p:Prop} (_:zDa) (h:p:=by
 clear g1;dsimp only;have hkb:(k == 3)=false:=by simpa using Hk.out
 go_wp2_with fail;refine(KM.out _ HG1.out).mono ?_;rintro e w2 ⟨rfl,g2⟩;have G2:=h_231;have HG2:=h_226;clear r0 b0 a0 a1 a2 a3 a4 a5 a6 a7 a8 a9 a10 a11 q0 q1 z0 z1 HR;clear g2;have nX:zD6:=()
 exact s_10
):p:=h
theorem zAr.g {p:Prop} (_:zAr) (h:p:=by
 refine(KF.out _ GA.out).mono ?_;rintro e w1 ⟨rfl,g1⟩;have G1:=h_128;have HG1:=h_225;have G0:=uZ g1;have nX:zDa:=()
 exact s_7
):p:=h
theorem aKi (t:Tr) (o:Opn) (rv bv:Value) (w:World) (hr:SlI w rv t.roots) (hv:bQ w bv t.brs) {fb:Br} (ho:aE t.brs o.unit=some fb) (hk:o.kind≠3) (hu:∃ x,cM t.brs o.mark=some x∧x.id≠o.unit):Calls Tryz.prog 104 #[.agg #[rv,bv],o.agg] w (bU (t,19) w):=by
 have HTT:=h_160;have kF:=h_176;rw[ho] at kF;unfold aY at kF;dsimp only [Option.getD_some,Option.isSome_some] at kF;have kM:=h_177;obtain⟨x,hx,hxu⟩:=hu;rw[hx] at kM;unfold nJ at kM;dsimp only [Option.isSome_some] at kM;have HBX:=h_235;obtain⟨Ar,cr,rfl,-⟩:=SlI.open_ hr;obtain⟨Ab,cb,rfl,-⟩:=bQ.open_ hv;clear hr hv;obtain⟨i,d,k,u,p,b,l,tt,m,x9,x10,x11⟩:=o;obtain⟨fi,fp,fl,ft,fm,fk⟩:=fb;unfold Opn.agg;unfold Opn.cells at HBX;dsimp only at HBX kF ho hk kM hxu ⊢;have KF:=uZ kF;have Ho:=uZ ho;have Hk:=uZ hk;have KM:=uZ kM;have Hxu:=uZ hxu;clear kF ho hk kM hxu;have GA:=h_8;have HB:=h_137;clear HBX;go_enter Tryz.func104,Tryz.ntmps104;have nX:zAr:=()
 exact s_1
def zAs:=Unit
def zDb:=Unit
def zD7:=Unit
theorem zD7.g {p:Prop} (_:zD7) (h:p:=by
 have hWA:w.heap.size+1+1<WA.heap.size:=(Array.getElem?_eq_some_iff.1 (HB.out WA (uX _)).2).1;generalize w1.heap.size=BU at u0 u1 u2 u3 u4 f4 hlo ⊢;have e0:¬ w.heap.size=BU:=by omega
 have e1:¬ w.heap.size+1=BU:=by omega
 exact c_31
):p:=h
def zHk:=Unit
theorem zHk.g {p:Prop} (_:zHk) (h:p:=by
 have nX:zD7:=()
 exact s_10
):p:=h
theorem zDb.g {p:Prop} (_:zDb) (h:p:=by
 have nX:zHk:=()
 exact s_48
):p:=h
theorem zAs.g {p:Prop} (_:zAs) (h:p:=by
 refine(KF.out _ GA.out).mono ?_;rintro e w1 ⟨rfl,g1⟩;have G1:=h_128;have HG1:=h_225;have HLO:=uZ g1.size;have nX:zDb:=()
 exact s_7
):p:=h
def zB7:=Unit
theorem zB7.g {p:Prop} (_:zB7) (h:p:=by
 obtain⟨fi,fp,fl,ft,fm,fk⟩:=fb;unfold Opn.agg;unfold Opn.cells at HBX;dsimp only at HBX kF ho hk kM ⊢;have KF:=uZ kF;have Ho:=uZ ho;have Hk:=uZ hk;have KM:=uZ kM;clear kF ho hk kM;have GA:=h_8;have HB:=h_137;clear HBX;go_enter Tryz.func104,Tryz.ntmps104;have nX:zAs:=()
 exact s_1
):p:=h
theorem aKk (t:Tr) (o:Opn) (rv bv:Value) (w:World) (hr:SlI w rv t.roots) (hv:bQ w bv t.brs) (hf:cF t.brs) (hrl:t.roots.length≤1000000) {fb:Br} (ho:aE t.brs o.unit=some fb) (hk:o.kind≠3) (hu:cM t.brs o.mark=none):Calls Tryz.prog 104 #[.agg #[rv,bv],o.agg] w (bU (chG t { fb with mark:=o.mark },0) w):=by
 have HTT:=h_160;have kF:=h_176;rw[ho] at kF;unfold aY at kF;dsimp only [Option.getD_some,Option.isSome_some] at kF;have KCH:=h_119;have kM:=h_177;rw[hu] at kM;unfold nJ at kM;dsimp only [Option.isSome_some,Option.isSome_none] at kM;have nX:zB7:=()
 exact s_4
def zAt:=Unit
def zDc:=Unit
def zD8:=Unit
theorem zD8.g {p:Prop} (_:zD8) (h:p:=by
 have hWA:w.heap.size+1+1<WA.heap.size:=(Array.getElem?_eq_some_iff.1 (HB.out WA (uX _)).2).1;generalize w1.heap.size=BU at u0 u1 u2 u3 u4 f4 hlo ⊢;have e0:¬ w.heap.size=BU:=by omega
 have e1:¬ w.heap.size+1=BU:=by omega
 have hxb:(x.id != u)=false:=by simpa using Hxu.out
 exact c_31
):p:=h
def zHl:=Unit
theorem zHl.g {p:Prop} (_:zHl) (h:p:=by
 have nX:zD8:=()
 exact s_10
):p:=h
theorem zDc.g {p:Prop} (_:zDc) (h:p:=by
 have nX:zHl:=()
 exact s_48
):p:=h
theorem zAt.g {p:Prop} (_:zAt) (h:p:=by
 refine(KF.out _ GA.out).mono ?_;rintro e w1 ⟨rfl,g1⟩;have G1:=h_128;have HG1:=h_225;have HLO:=uZ g1.size;have nX:zDc:=()
 exact s_7
):p:=h
def zB8:=Unit
theorem zB8.g {p:Prop} (_:zB8) (h:p:=by
 obtain⟨fi,fp,fl,ft,fm,fk⟩:=fb;unfold Opn.agg;unfold Opn.cells at HBX;dsimp only at HBX kF ho hk kM hxu ⊢;have KF:=uZ kF;have Ho:=uZ ho;have Hk:=uZ hk;have KM:=uZ kM;have Hxu:=uZ hxu;clear kF ho hk kM hxu;have GA:=h_8;have HB:=h_137;clear HBX;go_enter Tryz.func104,Tryz.ntmps104;have nX:zAt:=()
 exact s_1
):p:=h
theorem aKj (t:Tr) (o:Opn) (rv bv:Value) (w:World) (hr:SlI w rv t.roots) (hv:bQ w bv t.brs) (hf:cF t.brs) (hrl:t.roots.length≤1000000) {fb:Br} (ho:aE t.brs o.unit=some fb) (hk:o.kind≠3) {x:Br} (hu:cM t.brs o.mark=some x) (hxu:x.id=o.unit):Calls Tryz.prog 104 #[.agg #[rv,bv],o.agg] w (bU (chG t { fb with mark:=o.mark },0) w):=by
 have HTT:=h_160;have kF:=h_176;rw[ho] at kF;unfold aY at kF;dsimp only [Option.getD_some,Option.isSome_some] at kF;have KCH:=h_119;have kM:=h_177;rw[hu] at kM;unfold nJ at kM;dsimp only [Option.isSome_some,Option.isSome_none] at kM;have nX:zB8:=()
 exact s_4
def aYv (t:Tr) (o:Opn):Tr × Int:=match aE t.brs o.unit with
 | none=>(t,7)
 | some fb=>if fb.kids≠[] then(t,11) else(fJ t o fb,0)
def aXf (t:Tr) (o:Opn):Tr × Int:=match aE t.brs o.unit with
 | none=>(t,7)
 | some _=>if o.kind=3 then(jX t o.unit fun b=>{ b with title:=o.title },0) else if gF t o.mark o.unit=true then(t,19) else(jX t o.unit fun b=>{ b with mark:=o.mark },0)
section
variable (t:Tr) (o:Opn) (rv bv:Value) (w:World) (hr:SlI w rv t.roots) (hv:bQ w bv t.brs) (hf:cF t.brs) (hrl:t.roots.length≤1000000) (hT:aM t)
include hr hv hf hrl hT
theorem aKf:Calls Tryz.prog 103 #[.agg #[rv,bv],o.agg] w (bU (aYv t o) w):=by
 have hs:=bL hT;unfold aYv
 cases ho:aE t.brs o.unit with
 | none=>exact aCa t o rv bv w hr hv ho
 | some fb =>
  dsimp only;have hin:=bE ho
  have hk:aB t o.unit=fb.kids:=by
   rw[← hin.2];exact jU hs.asc hin.1 (cC (hs.units fb hin.1))
  by_cases h:fb.kids=[]
  ·rw[if_neg (fun k=>k h)]
   have h1:=zE t o rv bv w hr hv hf hrl ho (hk.trans h);rw[sM (qE hs)] at h1;exact h1
  ·rw[if_pos h]
   exact wJ t o rv bv w hr hv hf hrl ho (by rw[hk];exact h)
theorem aPw:Calls Tryz.prog 104 #[.agg #[rv,bv],o.agg] w (bU (aXf t o) w):=by
 have hs:=bL hT;unfold aXf
 cases ho:aE t.brs o.unit with
 | none=>exact aGz t o rv bv w hr hv ho
 | some fb =>
  dsimp only;have hin:=bE ho;have e3:chG t { fb with title:=o.title }=jX t o.unit fun b=>{ b with title:=o.title }:=(aNu hs.asc hin.1 (fun b=>{ b with title:=o.title }) (fun _=>⟨rfl,rfl⟩)).trans (by rw[hin.2])
  have e4:chG t { fb with mark:=o.mark }=jX t o.unit fun b=>{ b with mark:=o.mark }:=(aNu hs.asc hin.1 (fun b=>{ b with mark:=o.mark }) (fun _=>⟨rfl,rfl⟩)).trans (by rw[hin.2])
  by_cases h3:o.kind=3
  ·rw[if_pos h3,← e3]
   exact aKl t o rv bv w hr hv hf hrl ho h3
  ·rw[if_neg h3]
   have hu:=pT hs o.mark o.unit;rw[show(if o.mark.toList.isEmpty then none else t.brs.find? fun b=>b.mark.toList == o.mark.toList)=cM t.brs o.mark from rfl] at hu
   cases hm:cM t.brs o.mark with
   | none =>
    rw[hm] at hu;dsimp only at hu;rw[hu,if_neg b_52,← e4];exact aKk t o rv bv w hr hv hf hrl ho h3 hm
   | some x =>
    rw[hm] at hu;dsimp only at hu;by_cases hx:x.id=o.unit
    ·rw[hu,if_neg (by simp[hx]),← e4]
     exact aKj t o rv bv w hr hv hf hrl ho h3 hm hx
    ·rw[hu,if_pos (by simpa using hx)]
     exact aKi t o rv bv w hr hv ho h3 ⟨x,hm,hx⟩
end
def aXh (t:Tr) (o:Opn):Tr × Int:=if eK t o=0 then(fF t o,0) else(t,eK t o)
def aUy (t:Tr) (o:Opn) (PUT:List Int):Tr:=⟨(iD t o.parent PUT).roots,lI (gI o) (iD t o.parent PUT).brs⟩
theorem aAq {t:Tr} {o:Opn} (hT:aM t) (ho:aE t.brs o.unit=none) (Q:Tr × Int→Prop)
  (c1:∀ n,mZ t o.parent o.level=n→n≠0→Q (t,n))
  (c2:mZ t o.parent o.level=0→o.before≠0→o.before∉aB t o.parent→Q (t,7))
  (c3:mZ t o.parent o.level=0→(o.before=0∨(o.before≠0∧o.before∈aB t o.parent))→∀ x,cM t.brs o.mark=some x→Q (t,19))
  (c4:mZ t o.parent o.level=0→(o.before=0∨(o.before≠0∧o.before∈aB t o.parent))→cM t.brs o.mark=none→256≤t.brs.length→Q (t,8))
  (c5:mZ t o.parent o.level=0→(o.before=0∨(o.before≠0∧o.before∈aB t o.parent))→cM t.brs o.mark=none→t.brs.length<256→∀ PUT,mW o.unit o.before (aB t o.parent)++(if o.before=0 then[o.unit] else[])=PUT→PUT.length≤1000000→Q (aUy t o PUT,0)):Q (aXh t o):=by
 have hs:=bL hT
 have hL:mZ t o.parent o.level=if o.parent≠0∧(aE t.brs o.parent).isSome=false then 7 else if dC t o.parent o.level=false then 18 else 0:=by
  by_cases hp:o.parent≠0∧(aE t.brs o.parent).isSome=false
  ·rw[if_pos hp]
   unfold mZ;rw[if_neg hp.1];have:aE t.brs o.parent=none:=by simpa using hp.2
   rw[this]
  ·rw[if_neg hp]
   have hpar:o.parent=0∨∃ b∈t.brs,b.id=o.parent:=by
    by_cases h0:o.parent=0
    ·exact .inl h0
    ·cases hq:aE t.brs o.parent with
     | none=>exact absurd ⟨h0,by rw[hq];rfl⟩ hp
     | some q =>
      have:=bE hq;exact .inr ⟨q,this.1,this.2⟩
   rw[vE hpar];cases dC t o.parent o.level<;>rfl
 have hF:eK t o=if mZ t o.parent o.level≠0 then mZ t o.parent o.level else if o.before≠0∧o.before∉aB t o.parent then 7 else if gF t o.mark 0=true then 19 else if 256≤t.brs.length then 8 else 0:=by
  unfold eK;rw[ho,if_neg b_54,hL];by_cases h1:o.parent≠0∧(aE t.brs o.parent).isSome=false
  ·rw[if_pos h1,if_pos h1,if_pos b_52]
  ·rw[if_neg h1,if_neg h1]
   by_cases h2:dC t o.parent o.level=false
   ·rw[if_pos h2,if_pos h2,if_pos b_52]
   ·rw[if_neg h2,if_neg h2,if_neg (show ¬ ((0:Int)≠0) from fun h=>h rfl)]
 have hu:gF t o.mark 0=(cM t.brs o.mark).isSome:=by
  have hu:=pT hs o.mark 0;rw[show(if o.mark.toList.isEmpty then none else t.brs.find? fun b=>b.mark.toList == o.mark.toList)=cM t.brs o.mark from rfl] at hu
  cases hm:cM t.brs o.mark with
  | none =>
   rw[hm] at hu;exact hu
  | some x =>
   rw[hm] at hu;dsimp only at hu
   have hx:x∈t.brs:=by
    unfold cM at hm;split at hm
    ·cases hm
    ·exact List.mem_of_find?_eq_some hm
   have h0:=qE hs x hx;rw[hu];simpa using h0
 rw[hu] at hF;unfold aXh;by_cases e1:mZ t o.parent o.level=0
 ·rw[if_neg (fun h=>h e1)] at hF
  by_cases e2:o.before≠0∧o.before∉aB t o.parent
  ·rw[if_pos e2] at hF
   rw[hF,if_neg b_52];exact c2 e1 e2.1 e2.2
  ·rw[if_neg e2] at hF
   have e2':o.before=0∨(o.before≠0∧o.before∈aB t o.parent):=by
    by_cases h0:o.before=0
    ·exact .inl h0
    ·exact .inr ⟨h0, by by_cases hm : o.before ∈ aB t o.parent; · exact hm
                        · exact absurd ⟨h0, hm⟩ e2⟩
   cases e3:cM t.brs o.mark with
   | some x =>
    rw[e3,if_pos (show(some x).isSome=true from rfl)] at hF;rw[hF,if_neg b_52];exact c3 e1 e2' x e3
   | none =>
    rw[e3,if_neg b_54] at hF;by_cases e4:256≤t.brs.length
    ·rw[if_pos e4] at hF
     rw[hF,if_neg b_52];exact c4 e1 e2' e3 e4
    ·rw[if_neg e4] at hF
     rw[hF,if_pos rfl]
     have hpar:o.parent=0∨∃ b∈t.brs,b.id=o.parent:=by
      by_cases h0:o.parent=0
      ·exact .inl h0
      ·cases hq:aE t.brs o.parent with
       | none =>
        rw[if_pos ⟨h0,by rw[hq];rfl⟩] at hL;rw[hL] at e1;exact absurd e1 b_52
       | some q =>
        have:=bE hq;exact .inr ⟨q,this.1,this.2⟩
     obtain⟨hnd,h0⟩:=aAv hs hpar;have hput:=aCn (n:=o.unit) (before:=o.before) hnd h0
     have hlen:(iL o.unit o.before (aB t o.parent)).length≤1000000:=by
      have h1:=wQ.putF_le o.unit o.before (aB t o.parent);have h3:=nA (((bX t).1 hs).2 o.parent hpar);omega
     have:=c5 e1 e2' e3 b_53 _ hput.symm hlen
     have he:aUy t o (iL o.unit o.before (aB t o.parent))=fF t o:=by
      unfold aUy;rw[sM (qE hs)];rfl
     rw[he] at this;exact this
 ·rw[if_pos e1] at hF
  rw[hF,if_neg e1];exact c1 _ rfl e1
theorem s_21 {p:Prop} (h:p:=by
 go_wp2_with fail;refine(KM.out _ HG3.out).mono ?_;rintro e w5 ⟨rfl,g5⟩;have G5:=uZ (G3.out.trans g5);have HG5:=h_228;replace HV3:=uZ (SlI.mono HV3.out g5);clear r0 b0 a0 a1 a2 a3 a4 a5 a6 a7 a8 a9 a10 a11 q0 q1 z0 z1 HR g5 KM G3 HG3;obtain⟨⟨r0,b0,a0,a1,a2,a3,a4,a5,a6,a7,a8,a9,a10,a11⟩,hR⟩:=HB.out _ G5.out;obtain⟨q0,q1,z0,z1⟩:=cL hR;have HR:=uZ hR;clear hR;dsimp only;exact nX.g
):p:=h
def zE8:=Unit
def zHv:=Unit
theorem zHv.g {p:Prop} (_:zHv) (h:p:=by
 refine bodyPost_ret (v:=.tuple #[.agg #[.slice Ar t.roots.length cr,.slice Ab t.brs.length cb],.int .i64 19]) b_34 rfl ?_;exact dM HR.out b_53 HG5.out (HTT.out _ HG5.out)
):p:=h
theorem zE8.g {p:Prop} (_:zE8) (h:p:=by
 have nX:zHv:=()
 exact s_49
):p:=h
theorem c_34 {p:Prop} (h:p:=by
 have nX:zE8:=()
 exact s_21
):p:=h
def zE9:=Unit
def zHw:=Unit
theorem zHw.g {p:Prop} (_:zHw) (h:p:=by
 refine bodyPost_ret (v:=.tuple #[.agg #[.slice Ar t.roots.length cr,.slice Ab t.brs.length cb],.int .i64 8]) b_34 rfl ?_;exact dM HR.out b_53 HG5.out (HTT.out _ HG5.out)
):p:=h
theorem zE9.g {p:Prop} (_:zE9) (h:p:=by
 have nX:zHw:=()
 exact s_49
):p:=h
theorem c_35 {p:Prop} (h:p:=by
 have nX:zE9:=()
 exact s_21
):p:=h
theorem h_125 {p:Prop} (h:p:=by
 exact uZ (g1.alloc (.cells #[.int .i64 0,.int .i64 0,.int .i64 0,.string ⟨#[]⟩,.string ⟨#[]⟩] 64))
):p:=h
theorem h_132 {p:Prop} (h:p:=by
 exact fun W (hW:aA w W)=>bJ t.roots t.brs o.parent rv bv W (hr.mono hW) (hv.mono hW) hf hrl
):p:=h
theorem h_149 {p:Prop} (h:p:=by
 exact fun W (hW:aA w W)=>nK t o.parent o.level rv bv W (hr.mono hW) (hv.mono hW)
):p:=h
theorem h_195 {p:Prop} (h:p:=by
 exact fun v W h=>dI (aB t o.parent) o.before v W h
):p:=h
def zDl:=Unit
def zEb:=Unit
theorem zEb.g {p:Prop} (_:zEb) (h:p:=by
 dsimp only;go_wp2_with fail;refine(KC.out _ HG2.out).mono ?_;rintro e w3 ⟨v3,rfl,hv3,g3,-⟩;have G3:=h_232;have HG3:=h_227;have HV3:=uZ hv3;clear r0 b0 a0 a1 a2 a3 a4 a5 a6 a7 a8 a9 a10 a11 q0 q1 z0 z1 HR g3 hv3 KC G2 HG2;obtain⟨⟨r0,b0,a0,a1,a2,a3,a4,a5,a6,a7,a8,a9,a10,a11⟩,hR⟩:=HB.out _ G3.out;obtain⟨q0,q1,z0,z1⟩:=cL hR;exact nzDl.g
):p:=h
theorem zDl.g {p:Prop} (_:zDl) (h:p:=by
 clear g1;dsimp only;go_wp2_with fail;generalize w1.alloc (.cells #[.int .i64 0,.int .i64 0,.int .i64 0,.string ⟨#[]⟩,.string ⟨#[]⟩] 64)=wY at G1 HG1 r0 b0 a0 a1 a2 a3 a4 a5 a6 a7 a8 a9 a10 a11 q0 q1 z0 z1 HR ⊢;refine(KL.out _ HG1.out).mono ?_;rintro e w2 ⟨rfl,g2⟩;have G2:=h_231;have HG2:=h_226;clear r0 b0 a0 a1 a2 a3 a4 a5 a6 a7 a8 a9 a10 a11 q0 q1 z0 z1 HR g2 KF KL G1 HG1;have nX:zEb:=()
 exact s_10
):p:=h
theorem s_3 {p:Prop} (h:p:=by
 rintro e w1 ⟨rfl,g1⟩;have G1:=h_125;have HG1:=h_225;have nzDl:=nX;have nX:zDl:=()
 exact s_7
):p:=h
theorem s_13 {p:Prop} (h:p:=by
 have HTT:=h_160;have kF:=h_176;rw[ho] at kF;unfold aY at kF;dsimp only [Option.getD_none,Option.isSome_none,br0] at kF;have kL:=h_149;rw[hl] at kL;have kC:=h_132;rw[show aB ⟨t.roots,t.brs⟩ o.parent=aB t o.parent from rfl] at kC;exact nX.g
):p:=h
def zAu:=Unit
def zHp:=Unit
theorem zHp.g {p:Prop} (_:zHp) (h:p:=by
 refine bodyPost_ret (v:=.tuple #[.agg #[.slice Ar t.roots.length cr,.slice Ab t.brs.length cb],.int .i64 6]) b_34 rfl ?_;exact dM HR.out b_53 HG1.out (HTT.out _ HG1.out)
):p:=h
theorem zAu.g {p:Prop} (_:zAu) (h:p:=by
 refine(KF.out _ GA.out).mono ?_;rintro e w1 ⟨rfl,g1⟩;have HG1:=uZ (GA.out.trans (g1.alloc (.cells #[.int .i64 fi,.int .i64 fp,.int .i64 fl,.string ft,.string fm] 64)));obtain⟨⟨r0,b0,a0,a1,a2,a3,a4,a5,a6,a7,a8,a9,a10,a11⟩,hR⟩:=HB.out _ (g1.alloc (.cells #[.int .i64 fi,.int .i64 fp,.int .i64 fl,.string ft,.string fm] 64));obtain⟨q0,q1,z0,z1⟩:=cL hR;have HR:=uZ hR;clear hR;clear g1;dsimp only;have nX:zHp:=()
 exact s_49
):p:=h
theorem tV (t:Tr) (o:Opn) (rv bv:Value) (w:World) (hr:SlI w rv t.roots) (hv:bQ w bv t.brs) {fb:Br} (ho:aE t.brs o.unit=some fb):Calls Tryz.prog 101 #[.agg #[rv,bv],o.agg] w (bU (t,6) w):=by
 have HTT:=h_160;have kF:=h_176;rw[ho] at kF;unfold aY at kF;dsimp only [Option.getD_some,Option.isSome_some] at kF;have HBX:=h_235;obtain⟨Ar,cr,rfl,-⟩:=SlI.open_ hr;obtain⟨Ab,cb,rfl,-⟩:=bQ.open_ hv;clear hr hv;obtain⟨i,d,k,u,p,b,l,tt,m,x9,x10,x11⟩:=o;obtain⟨fi,fp,fl,ft,fm,fk⟩:=fb;unfold Opn.agg;unfold Opn.cells at HBX;dsimp only at HBX kF ⊢;have KF:=uZ kF;clear kF;have GA:=h_8;have HB:=h_137;clear HBX;go_enter Tryz.func101,Tryz.ntmps101;have nX:zAu:=()
 exact s_1
def zAv:=Unit
def zDd:=Unit
def zD9:=Unit
def zHq:=Unit
theorem zHq.g {p:Prop} (_:zHq) (h:p:=by
 refine bodyPost_ret (v:=.tuple #[.agg #[.slice Ar t.roots.length cr,.slice Ab t.brs.length cb],.int .i64 n]) b_34 rfl ?_;exact dM HR.out b_53 HG2.out (HTT.out _ HG2.out)
):p:=h
theorem zD9.g {p:Prop} (_:zD9) (h:p:=by
 dsimp only;have nX:zHq:=()
 exact s_49
):p:=h
theorem zDd.g {p:Prop} (_:zDd) (h:p:=by
 clear g1;dsimp only;go_wp2_with fail;generalize w1.alloc (.cells #[.int .i64 0,.int .i64 0,.int .i64 0,.string ⟨#[]⟩,.string ⟨#[]⟩] 64)=wY at G1 HG1 r0 b0 a0 a1 a2 a3 a4 a5 a6 a7 a8 a9 a10 a11 q0 q1 z0 z1 HR ⊢;refine(KL.out _ HG1.out).mono ?_;rintro e w2 ⟨rfl,g2⟩;have G2:=h_231;have HG2:=h_226;clear r0 b0 a0 a1 a2 a3 a4 a5 a6 a7 a8 a9 a10 a11 q0 q1 z0 z1 HR g2 KF KL G1 HG1;have nX:zD9:=()
 exact s_10
):p:=h
theorem zAv.g {p:Prop} (_:zAv) (h:p:=by
 have hnb:(n != 0)=true:=by simpa using hn0
 refine(KF.out _ GA.out).mono ?_;rintro e w1 ⟨rfl,g1⟩;have G1:=h_125;have HG1:=h_225;have nX:zDd:=()
 exact s_7
):p:=h
theorem zL (t:Tr) (o:Opn) (rv bv:Value) (w:World) (hr:SlI w rv t.roots) (hv:bQ w bv t.brs) (ho:aE t.brs o.unit=none) {n:Int} (hl:mZ t o.parent o.level=n) (hn0:n≠0):Calls Tryz.prog 101 #[.agg #[rv,bv],o.agg] w (bU (t,n) w):=by
 have HTT:=h_160;have kF:=h_176;rw[ho] at kF;unfold aY at kF;dsimp only [Option.getD_none,Option.isSome_none,br0] at kF;have kL:=h_149;rw[hl] at kL;have HBX:=h_235;obtain⟨Ar,cr,rfl,-⟩:=SlI.open_ hr;obtain⟨Ab,cb,rfl,-⟩:=bQ.open_ hv;clear hr hv;obtain⟨i,d,k,u,p,b,l,tt,m,x9,x10,x11⟩:=o;unfold Opn.agg;unfold Opn.cells at HBX;dsimp only at HBX kF kL ⊢;have KF:=uZ kF;have KL:=uZ kL;clear kF kL;have GA:=h_8;have HB:=h_137;clear HBX;go_enter Tryz.func101,Tryz.ntmps101;have nX:zAv:=()
 exact s_1
def zAw:=Unit
def zBn:=Unit
def zHr:=Unit
theorem zHr.g {p:Prop} (_:zHr) (h:p:=by
 refine bodyPost_ret (v:=.tuple #[.agg #[.slice Ar t.roots.length cr,.slice Ab t.brs.length cb],.int .i64 7]) b_34 rfl ?_;exact dM HR.out b_53 HG3.out (HTT.out _ HG3.out)
):p:=h
theorem zBn.g {p:Prop} (_:zBn) (h:p:=by
 have HR:=uZ hR;clear hR;dsimp only;have hbb:=h_206;go_wp2_with fail;refine(KH.out _ _ HV3.out).mono ?_;rintro e w4 ⟨rfl,rfl⟩;dsimp only;have nX:zHr:=()
 exact s_49
):p:=h
theorem zAw.g {p:Prop} (_:zAw) (h:p:=by
 refine(KF.out _ GA.out).mono ?_;have nX:zBn:=()
 exact s_3
):p:=h
def zB9:=Unit
theorem zB9.g {p:Prop} (_:zB9) (h:p:=by
 unfold Opn.agg;unfold Opn.cells at HBX;dsimp only at HBX kF kL kC kH hbz ⊢;have KF:=uZ kF;have KL:=uZ kL;have KC:=uZ kC;have KH:=uZ kH;have Hbz:=uZ hbz;clear kF kL kC kH hbz;have GA:=h_8;have HB:=h_137;clear HBX;go_enter Tryz.func101,Tryz.ntmps101;have nX:zAw:=()
 exact s_1
):p:=h
def zEg:=Unit
theorem zEg.g {p:Prop} (_:zEg) (h:p:=by
 have kH:=h_195;rw[decide_eq_false hnb] at kH;clear hnb;generalize aB t o.parent=KS at *;have nX:zB9:=()
 exact s_4
):p:=h
theorem zM (t:Tr) (o:Opn) (rv bv:Value) (w:World) (hr:SlI w rv t.roots) (hv:bQ w bv t.brs) (hf:cF t.brs) (hrl:t.roots.length≤1000000) (ho:aE t.brs o.unit=none) (hl:mZ t o.parent o.level=0) (hbz:o.before≠0) (hnb:o.before∉aB t o.parent):Calls Tryz.prog 101 #[.agg #[rv,bv],o.agg] w (bU (t,7) w):=by
 have nX:zEg:=()
 exact s_13
def zAx:=Unit
def zBo:=Unit
theorem zBo.g {p:Prop} (_:zBo) (h:p:=by
 have HR:=uZ hR;clear hR;dsimp only;have hbb:=h_200;exact c_34
):p:=h
theorem zAx.g {p:Prop} (_:zAx) (h:p:=by
 refine(KF.out _ GA.out).mono ?_;have nX:zBo:=()
 exact s_3
):p:=h
def zCa:=Unit
theorem zCa.g {p:Prop} (_:zCa) (h:p:=by
 unfold Opn.agg;unfold Opn.cells at HBX;dsimp only at HBX kF kL kC kM hbz ⊢;have KF:=uZ kF;have KL:=uZ kL;have KC:=uZ kC;have KM:=uZ kM;have Hbz:=uZ hbz;clear kF kL kC kM hbz;have GA:=h_8;have HB:=h_137;clear HBX;go_enter Tryz.func101,Tryz.ntmps101;have nX:zAx:=()
 exact s_1
):p:=h
def zEh:=Unit
theorem zEh.g {p:Prop} (_:zEh) (h:p:=by
 have kM:=h_177;rw[hu] at kM;unfold nJ at kM;dsimp only [Option.isSome_some] at kM;generalize aB t o.parent=KS at *;have nX:zCa:=()
 exact s_4
):p:=h
theorem tT (t:Tr) (o:Opn) (rv bv:Value) (w:World) (hr:SlI w rv t.roots) (hv:bQ w bv t.brs) (hf:cF t.brs) (hrl:t.roots.length≤1000000) (ho:aE t.brs o.unit=none) (hl:mZ t o.parent o.level=0) (hbz:o.before=0) {x:Br} (hu:cM t.brs o.mark=some x):Calls Tryz.prog 101 #[.agg #[rv,bv],o.agg] w (bU (t,19) w):=by
 have nX:zEh:=()
 exact s_13
def zAy:=Unit
def zBp:=Unit
theorem zBp.g {p:Prop} (_:zBp) (h:p:=by
 have HR:=uZ hR;clear hR;dsimp only;have hbb:=h_200;exact c_35
):p:=h
theorem zAy.g {p:Prop} (_:zAy) (h:p:=by
 have hgz:(256:Int)≤(t.brs.length:Int):=by omega
 clear hge;refine(KF.out _ GA.out).mono ?_;have nX:zBp:=()
 exact s_3
):p:=h
def zCb:=Unit
theorem zCb.g {p:Prop} (_:zCb) (h:p:=by
 unfold Opn.agg;unfold Opn.cells at HBX;dsimp only at HBX kF kL kC kM hbz ⊢;have KF:=uZ kF;have KL:=uZ kL;have KC:=uZ kC;have KM:=uZ kM;have Hbz:=uZ hbz;clear kF kL kC kM hbz;have GA:=h_8;have HB:=h_137;clear HBX;go_enter Tryz.func101,Tryz.ntmps101;have nX:zAy:=()
 exact s_1
):p:=h
def zEi:=Unit
theorem zEi.g {p:Prop} (_:zEi) (h:p:=by
 have kM:=h_177;rw[hu] at kM;unfold nJ at kM;dsimp only [Option.isSome_none] at kM;generalize aB t o.parent=KS at *;have nX:zCb:=()
 exact s_4
):p:=h
theorem tW (t:Tr) (o:Opn) (rv bv:Value) (w:World) (hr:SlI w rv t.roots) (hv:bQ w bv t.brs) (hf:cF t.brs) (hrl:t.roots.length≤1000000) (ho:aE t.brs o.unit=none) (hl:mZ t o.parent o.level=0) (hbz:o.before=0) (hu:cM t.brs o.mark=none) (hge:256≤t.brs.length):Calls Tryz.prog 101 #[.agg #[rv,bv],o.agg] w (bU (t,8) w):=by
 have nX:zEi:=()
 exact s_13
def zAz:=Unit
def zBq:=Unit
theorem zBq.g {p:Prop} (_:zBq) (h:p:=by
 have HR:=uZ hR;clear hR;dsimp only;have hbb:=h_206;go_wp2_with fail;refine(KH.out _ _ HV3.out).mono ?_;rintro e w4 ⟨rfl,rfl⟩;dsimp only;exact c_34
):p:=h
theorem zAz.g {p:Prop} (_:zAz) (h:p:=by
 refine(KF.out _ GA.out).mono ?_;have nX:zBq:=()
 exact s_3
):p:=h
def zCc:=Unit
theorem zCc.g {p:Prop} (_:zCc) (h:p:=by
 unfold Opn.agg;unfold Opn.cells at HBX;dsimp only at HBX kF kL kC kM hbz kH ⊢;have KF:=uZ kF;have KL:=uZ kL;have KC:=uZ kC;have KM:=uZ kM;have Hbz:=uZ hbz;have KH:=uZ kH;clear kF kL kC kM hbz kH;have GA:=h_8;have HB:=h_137;clear HBX;go_enter Tryz.func101,Tryz.ntmps101;have nX:zAz:=()
 exact s_1
):p:=h
def zEj:=Unit
theorem zEj.g {p:Prop} (_:zEj) (h:p:=by
 have kH:=h_195;rw[decide_eq_true hbz.2] at kH;replace hbz:=hbz.1;have kM:=h_177;rw[hu] at kM;unfold nJ at kM;dsimp only [Option.isSome_some] at kM;generalize aB t o.parent=KS at *;have nX:zCc:=()
 exact s_4
):p:=h
theorem tU (t:Tr) (o:Opn) (rv bv:Value) (w:World) (hr:SlI w rv t.roots) (hv:bQ w bv t.brs) (hf:cF t.brs) (hrl:t.roots.length≤1000000) (ho:aE t.brs o.unit=none) (hl:mZ t o.parent o.level=0) (hbz:o.before≠0∧o.before∈aB t o.parent) {x:Br} (hu:cM t.brs o.mark=some x):Calls Tryz.prog 101 #[.agg #[rv,bv],o.agg] w (bU (t,19) w):=by
 have nX:zEj:=()
 exact s_13
def zA0:=Unit
def zBr:=Unit
theorem zBr.g {p:Prop} (_:zBr) (h:p:=by
 have HR:=uZ hR;clear hR;dsimp only;have hbb:=h_206;go_wp2_with fail;refine(KH.out _ _ HV3.out).mono ?_;rintro e w4 ⟨rfl,rfl⟩;dsimp only;exact c_35
):p:=h
theorem zA0.g {p:Prop} (_:zA0) (h:p:=by
 have hgz:(256:Int)≤(t.brs.length:Int):=by omega
 clear hge;refine(KF.out _ GA.out).mono ?_;have nX:zBr:=()
 exact s_3
):p:=h
def zCd:=Unit
theorem zCd.g {p:Prop} (_:zCd) (h:p:=by
 unfold Opn.agg;unfold Opn.cells at HBX;dsimp only at HBX kF kL kC kM hbz kH ⊢;have KF:=uZ kF;have KL:=uZ kL;have KC:=uZ kC;have KM:=uZ kM;have Hbz:=uZ hbz;have KH:=uZ kH;clear kF kL kC kM hbz kH;have GA:=h_8;have HB:=h_137;clear HBX;go_enter Tryz.func101,Tryz.ntmps101;have nX:zA0:=()
 exact s_1
):p:=h
def zEk:=Unit
theorem zEk.g {p:Prop} (_:zEk) (h:p:=by
 have kH:=h_195;rw[decide_eq_true hbz.2] at kH;replace hbz:=hbz.1;have kM:=h_177;rw[hu] at kM;unfold nJ at kM;dsimp only [Option.isSome_none] at kM;generalize aB t o.parent=KS at *;have nX:zCd:=()
 exact s_4
):p:=h
theorem tX (t:Tr) (o:Opn) (rv bv:Value) (w:World) (hr:SlI w rv t.roots) (hv:bQ w bv t.brs) (hf:cF t.brs) (hrl:t.roots.length≤1000000) (ho:aE t.brs o.unit=none) (hl:mZ t o.parent o.level=0) (hbz:o.before≠0∧o.before∈aB t o.parent) (hu:cM t.brs o.mark=none) (hge:256≤t.brs.length):Calls Tryz.prog 101 #[.agg #[rv,bv],o.agg] w (bU (t,8) w):=by
 have nX:zEk:=()
 exact s_13
def aPj (t:Tr) (o:Opn):Tr × Int:=if o.kind=1 then aXh t o else if o.kind=2 then aQu t o else if o.kind=5 then aYv t o else aXf t o
theorem aPi {t:Tr} {o:Opn} (hf:aP o=true) (h6:o.kind≠6):aPj t o=if cW t o=0 then(oG t o,0) else(t,cW t o):=by
 unfold aPj;rcases aMd hf h6 with h|h|h|h|h
 ·rw[if_pos h,aFw h,aLr h]
  rfl
 ·rw[if_neg b_53,if_pos h,rW h]
  unfold aQu
  cases hb:aE t.brs o.unit with
  | none =>
   have:eI t o=7:=by
    unfold eI;rw[hb]
   rw[this,if_neg b_52]
  | some u=>rw[aLq h hb]
 ·rw[if_neg b_53,if_neg b_53,if_neg b_53,eS (.inl h)]
  unfold aXf gW
  cases hb:aE t.brs o.unit with
  | none=>rfl
  | some u =>
   rw[aFc h hb];dsimp only;have hz:¬ (o.kind=4∧gF t o.mark o.unit=true):=fun k=>by have:=k.1;omega
   rw[if_pos h,if_neg hz,if_pos rfl]
 ·rw[if_neg b_53,if_neg b_53,if_neg b_53,eS (.inr h)]
  unfold aXf gW
  cases hb:aE t.brs o.unit with
  | none=>rfl
  | some u =>
   rw[aFb h hb];dsimp only;rw[if_neg b_53];by_cases hu:gF t o.mark o.unit=true
   ·have hz:o.kind=4∧gF t o.mark o.unit=true:=⟨h,hu⟩
    rw[if_pos hu,if_pos hz,if_neg b_52]
   ·have hz:¬ (o.kind=4∧gF t o.mark o.unit=true):=fun k=>hu k.2
    rw[if_neg hu,if_neg hz,if_pos rfl]
 ·rw[if_neg b_53,if_neg b_53,if_pos h,xU h]
  unfold aYv mJ
  cases hb:aE t.brs o.unit with
  | none=>rfl
  | some u =>
   rw[aLp h hb];dsimp only;by_cases hk:u.kids≠[]
   ·simp[hk]
   ·simp[hk]
def oN (n:Nat) (l:List Br):Prop:=∀ b∈l,b.mark.size≤n
theorem mS {n:Nat} {t:Tr} (h:oN n t.brs) (p:Int) (ks:List Int):oN n (fW t p ks).brs:=by
 exact c_98
theorem pW {n:Nat} {t:Tr} (h:oN n t.brs) (m:Int) (f:Br→Br) (hf:∀ b,b.mark.size≤n→(f b).mark.size≤n):oN n (jX t m f).brs:=by
 intro b hb;obtain⟨c,hc,rfl⟩:=List.mem_map.1 hb;have:=h c hc;split
 ·exact hf c this
 ·exact this
theorem aHm {n:Nat} {t:Tr} {o:Opn} (h:oN n t.brs) (ho:o.mark.size≤n):oN n (oG t o).brs:=by
 unfold oG;split
 ·intro b hb
  unfold fF at hb;rcases (dU _ _ _).1 hb with rfl|hb
  ·exact ho
  ·exact mS h _ _ b hb
 ·split
  ·exact h
  ·split
   ·unfold jM
    exact pW (mS (mS h _ _) _ _) _ _ fun b hb=>hb
   ·split
    ·intro b hb
     unfold fJ at hb;exact mS h _ _ b (List.mem_filter.1 hb).1
    ·split
     ·exact pW h _ _ fun b hb=>hb
     ·exact pW h _ _ fun b _=>ho
theorem aQv {n:Nat} {l:List Br} (h:oN n l) (hn:n≤9223372036854775807):∀ i (hi:i<l.length),l[i].mark.size≤9223372036854775807:=fun _ hi=>Nat.le_trans (h _ (List.getElem_mem hi)) hn
end Go.Proofs.YtdochkemaiokfaaGreat






