/- Lemmas on what the functions of the program and of the library compute: RT3, PlainBu, PlainBw, RT4, Es9a, Es9b. The conditions stand at each. -/
import Derived.Test.YtdochkemaiokfaaGreatQ21
import Derived.Test.YtdochkemaiokfaaGreatQ15
import Derived.Deep.RegionHeld3
import Derived.Deep.AppendLies
import Derived.Test.YtdochkemaiokfaaGreatQ2
import Derived.Test.YtdochkemaiokfaaGreatQ9
import Derived.Test.YtdochkemaiokfaaGreatQ7
import Derived.Test.YtdochkemaiokfaaGreatQ17
set_option maxHeartbeats 16000000
set_option maxRecDepth 100000
set_option linter.all false
namespace Go.Proofs.YtdochkemaiokfaaGreat
open Go.RowKit
theorem c_11 {p:Prop} (h:p:=by
 clear s6 f6 g2 t0 t1 hr6 HOWN1;dsimp only;go_wp2;go_loopg [5,7] ks.length (fun gg s5 s7 wr=>∃ k:Nat,k≤ks.length∧ks.length-k≤gg∧s7=.int .i64 k∧Aside (UnR (w.alloc (.cells [rv,bv].toArray 43)) (.slice A6 ks.length c6) ks hd g k s5 wr))
 case atStart=>exact⟨0,by omega,by omega,rfl,(show Aside _ from HR0.out)⟩
 case round =>
  obtain⟨k,hk,hgk,rfl,RW⟩:=hrel;by_cases hlt:k<ks.length
  ·have hltz:(k:Int)<(ks.length:Int):=by omega
   have h0z:=h_216;obtain⟨gr,⟨L,hL,own⟩,kids,off⟩:=RW.out;obtain⟨As,ns,cs,rfl⟩:=uW own;obtain⟨A7,c7,he7,-,-,hr7⟩:=kids.open_;injection he7 with hA hn7 hc7;subst hA hc7;obtain⟨b6,off6,rfl,hb6,hcell6⟩:=hr7 b_53;have c0:=hcell6 wr (uX _) k hlt;have t0:=yQ gr 0 _ rfl;have t1:=yQ gr 1 _ rfl;have kK:=HK.out ks[k] (List.getElem_mem hlt);have hgne:=List.length_pos_iff.2 (HGK.out ks[k] (List.getElem_mem hlt));have hnx:=mG g ks k hlt
   have hlenN:L.length+(g ks[k]).length≤1000000:=by
    have h1:=HN.out;rw[jT g ks k hlt,← List.append_assoc,hL,List.length_append,List.length_append] at h1;omega
   have hL2:hd++(ks.take (k+1)).flatMap g=L++g ks[k]:=by rw[hnx,← List.append_assoc,hL]
   have HL2:=uZ hL2;clear hL hL2;have HKIDS:=uZ kids;have HOFF:=uZ off;have HGR:=uZ gr;have HOWN:=uZ own;have HWW:=uZ (show aA w0 wr from HW.out.trans (((uX w).alloc _).trans gr));have HNE:RowKit.Hid (∀ b,Value.ownBlock (.slice As ns cs)=some b→w.heap.size<b∧b≠b6):=fun b hb=>⟨by have:=(own.lt b hb).1;simp at this;omega,fun e=>off b_53 b hb (by rw[e];rfl)⟩
   have hsw:=gr.size;have T0:=uZ t0;have T1:=uZ t1;have C0:=uZ c0;clear gr own kids off hcell6 hr7 hnx;generalize ks[k]=y at c0 C0 kK hgne hlenN HL2;have HKK:=uZ kK;clear kK c0 t0 t1;go_wp2_with fail
   go_region_held3 (fun W=>W.cell? ⟨w.heap.size,0,none⟩=some rv∧W.cell? ⟨w.heap.size,1,none⟩=some bv∧W.cell? ⟨b6,off6+k,none⟩=some (.int .i64 y)∧aA (w.alloc (.cells [rv,bv].toArray 43)) W) (first|exact⟨P0.out,P1.out,P2.out,P3.out⟩|refine aZy wr _ T0.out T1.out C0.out HGR.out (by repeat (first|exact uX wr|exact GG9.out|refine uJ ?_)))
    (first|(go_at_call 208;refine(HKK.out _ (HWW.out.trans (by repeat (first|exact uX wr|refine uJ ?_)))).mono ?_;rintro e w3 ⟨v9,rfl,s9,g9,f9⟩;obtain⟨A9,c9,rfl,hl9,hc9,hr9⟩:=s9.open_;unfold maxLen at hc9;obtain⟨b9,o9,rfl,hb9,hcell9⟩:=hr9 hgne;have HS9:=uZ s9;have GG9:=uZ (show aA wr w3 from uY (by repeat (first|exact uX wr|refine uJ ?_)) g9);have HK9:=uZ (HKIDS.out.mono GG9.out);have HOWN9:=uZ (aZ HOWN.out GG9.out);have HGR9:=uZ (HGR.out.trans GG9.out);have hsz:=HGR9.out.size;clear hr9 s9 g9 f9 hcell9 HKK)|(refine step_append_lies _ b_55 (.tmp 23) (.tmp 29) 38 b_55 (w.alloc (.cells [rv,bv].toArray 43)).heap.size 3 i0 (.int .i64 0) 1 8 Tryz.underlying38 hi hz0 hz1 hz2 rfl b_53 _ _ _ b_55 HOWN9.out ⟨b9,o9,none⟩ (g y).length c9 ((g y).flatMap eE) b_55 (aL eE 1 (fun _=>rfl) _) (aAw HS9.out) (fI _) hgne b_47 b_53 hsz w3.heap.size rfl ?_;intro ga capa wa howna hgra hata hlta;have P0:=uZ (hgra.cell (uQ GG9.out T0.out) (fun e=>by have:=(HNE.out _ e.symm).1;simp at this));have P1:=uZ (hgra.cell (uQ GG9.out T1.out) (fun e=>by have:=(HNE.out _ e.symm).1;simp at this));have P2:=uZ (hgra.cell (uQ GG9.out C0.out) (fun e=>(HNE.out _ e.symm).2 rfl));have P3:=uZ (show aA (w.alloc (.cells [rv,bv].toArray 43)) wa from Below.grown HGR9.out hgra hsz (fun b e=>(HOWN9.out.lt b e).1));have HR1:=uZ (aSs HL2.out HGR9.out HOWN9.out HK9.out HOFF.out hgra howna hata);clear howna hgra hata hlta))
   go_wp2;go_roundg (ks.length-(k+1))
   case measure=>omega
   case rel=>exact⟨k+1,by omega,by omega,by go_num,(show Aside _ from HR1.out)⟩
  ·have hltz:¬ (k:Int)<(ks.length:Int):=by omega
   obtain rfl:k=ks.length:=by omega
   obtain⟨gr,⟨L,hL,own⟩,-,-⟩:=RW.out;rw[List.take_length] at hL;have HLL:=uZ hL;clear hL;have HOWN:=uZ own;have HGR:=uZ gr;clear own gr;go_wp2;go_ret;exact⟨_,rfl,by rw[HLL.out];exact Rd.of_own HOWN.out,((uX w).alloc _).trans HGR.out,fun b hb=>by have:=(HOWN.out.lt b hb).1;simp at this;omega⟩
):p:=h
structure UnR (w1:World) (v6:Value) (ks:List Int) (hd:List Int) (g:Int→List Int) (k:Nat) (s5:Value) (wr:World):Prop where
 gr:aA w1 wr
 own:∃ L,hd++(ks.take k).flatMap g=L∧wr.ownsRow w1.heap.size 3 1 s5 L.length (L.flatMap eE)
 kids:SlI wr v6 ks
 off:0<ks.length→∀ b,s5.ownBlock=some b→v6.ownBlock≠some b
theorem aPl {w:World} {v:Value} {l:List Int} (h:SlI w v l) (h0:0<l.length):∃ b,v.ownBlock=some b∧b<w.heap.size:=by
 obtain⟨A,c,rfl,-,-,hr⟩:=h.open_;obtain⟨b,off,rfl,hb,-⟩:=hr h0;exact⟨b,rfl,hb⟩
theorem aYh {w w':World} {v:Value} {l:List Int} {row:Option Nat} (h:SlI w v l) (hg:w.grownBy w' row) (hr:0<l.length→∀ b,v.ownBlock=some b→row≠some b):SlI w' v l:=by
 rcases Nat.eq_zero_or_pos l.length with h0|h0
 ·obtain rfl:l=[]:=List.eq_nil_of_length_eq_zero h0
  obtain⟨A,c,rfl,hlc,hcm,-⟩:=h.open_;exact⟨A,0,c,rfl,by simp,by omega,hcm,fun h=>absurd h (Nat.lt_irrefl _)⟩
 ·exact aQb h hg (hr h0)
theorem aAw {W:World} {b o n c:Nat} {l:List Int} (h:SlI W (.slice (some ⟨b,o,none⟩) n c) l):∀ j u,(l.flatMap eE)[j]? = some u→W.cell? ((⟨b,o,none⟩:Addr).add j)=some u:=by
 intro j u hj;obtain⟨A,n',c',hv,hl,_,_,hr⟩:=h;injection hv with hA hn hc;subst hA hn hc;have hlt:=(List.getElem?_eq_some_iff.1 hj).1;obtain⟨b',o',he,_,hcell⟩:=hr b_53;injection he with he;injection he with e1 e2 _;subst e1 e2;rw[bT];exact hcell j u hj
theorem aZy {WB:World} (wr W:World) {p q r:Addr} {x y z:Value} (h:wr.cell? p=some x) (h2:wr.cell? q=some y) (h3:wr.cell? r=some z) (g0:aA WB wr) (g:aA wr W):W.cell? p=some x∧W.cell? q=some y∧W.cell? r=some z∧aA WB W:=⟨uQ g h,uQ g h2,uQ g h3,g0.trans g⟩
theorem uW {w:World} {base:Nat} {e:TypeId} {k n:Nat} {v:Value} {xs:List Value} (h:w.ownsRow base e k v n xs):∃ A m c,v=.slice A m c:=by
 rcases h.2 with ⟨rfl,_⟩|⟨g,cap,cur,rfl,_⟩
 ·exact⟨_,_,_,rfl⟩
 ·exact⟨_,_,_,rfl⟩
theorem aSs {w1 w3 wa:World} {v6 s5:Value} {ks hd:List Int} {g:Int→List Int} {k ga n n' capa:Nat} {cs:List Value} {L m:List Int} (hL:hd++(ks.take (k+1)).flatMap g=L++m) (hgr:aA w1 w3) (hown:w3.ownsRow w1.heap.size 3 1 s5 n cs) (hk:SlI w3 v6 ks) (hoff:0<ks.length→∀ b,s5.ownBlock=some b→v6.ownBlock≠some b)
  (hg:w3.grownBy wa s5.ownBlock) (ho:wa.ownsRow w1.heap.size 3 1 (.slice (some ⟨ga,0,none⟩) n' capa) (L.length+m.length) (L.flatMap eE++m.flatMap eE)) (hat:s5.ownBlock=some ga∨ga=w3.heap.size):UnR w1 v6 ks hd g (k+1) (.slice (some ⟨ga,0,none⟩) n' capa) wa:=by
 refine⟨Below.grown hgr hg hgr.size (fun b e=>(hown.lt b e).1),⟨_,hL,by rw[List.length_append,List.flatMap_append];exact ho⟩,aYh hk hg (fun h0 b hb e=>hoff h0 b e hb),fun h0 b hb hb6=>?_⟩;simp[Value.ownBlock] at hb;subst hb;rcases hat with h|h
 ·exact hoff h0 _ h hb6
 ·obtain⟨b,h1,h2⟩:=aPl hk h0
  rw[hb6] at h1;injection h1 with h1;omega
theorem lR (rs:List Int) (l:List Br) (rv bv:Value) (w0:World) (hr:SlI w0 rv rs) (hv:bQ w0 bv l) (hf:cF l) (hrl:rs.length≤1000000) (x:Int) (g:Int→List Int) (hgk:∀ k∈aB ⟨rs,l⟩ x,g k≠[])
  (hN:((if x=0 then[] else[x])++(aB ⟨rs,l⟩ x).flatMap g).length≤1000000)
  (hK:∀ k∈aB ⟨rs,l⟩ x,∀ W,aA w0 W→Calls Tryz.prog 208 #[.agg #[rv,bv],.int .i64 k] W (oM (g k) W)) (w:World) (hw:aA w0 w) :
  Calls Tryz.prog 208 #[.agg #[rv,bv],.int .i64 x] w (oM ((if x=0 then[] else[x])++(aB ⟨rs,l⟩ x).flatMap g) w):=by
 have KC:=uZ (fun W (hW:aA w0 W)=>bJ rs l x rv bv W (hr.mono hW) (hv.mono hW) hf hrl);have HGK:=uZ hgk;have HN:=uZ hN;have HK:=uZ hK;have HW:=uZ hw
 have hkl:(aB ⟨rs,l⟩ x).length≤1000000:=by
  have h1:∀ ks:List Int,(∀ k∈ks,g k≠[])→ks.length≤(ks.flatMap g).length:=by
   intro ks
   induction ks with
   | nil=>intro _;simp
   | cons k r ih =>
    intro h;have h2:=ih (fun j hj=>h j (List.mem_cons_of_mem _ hj));have h3:0<(g k).length:=List.length_pos_iff.2 (h k (List.mem_cons_self ..));rw[List.flatMap_cons,List.length_append,List.length_cons];omega
  have h2:=h1 _ hgk;rw[List.length_append] at hN;omega
 generalize aB ⟨rs,l⟩ x=ks at KC HGK HN HK hkl ⊢;obtain⟨i0,hi,hz0,hz1,hz2⟩:=info_parts lJ;clear hr hv hf hrl hgk hN hK hw;obtain⟨hd,hhd⟩:∃ hd,(if x=0 then[] else[x])=hd:=⟨_,rfl⟩
 rw[hhd] at HN ⊢;have HHD:=uZ hhd;clear hhd;by_cases h0:x=0
 ·have hhd:hd=[]:=by rw[← HHD.out,if_pos h0]
  have hown1:(w.alloc (.cells [rv,bv].toArray 43)).ownsRow (w.alloc (.cells [rv,bv].toArray 43)).heap.size 3 1 (.slice none 0 0) hd.length (hd.flatMap eE):=by
   rw[hhd];exact World.ownsRow_nil _ _ _ _
  subst h0;clear HHD hhd;have hg1:=uX (w.alloc (.cells [rv,bv].toArray 43));have t0:=yQ hg1 0 _ rfl;have t1:=yQ hg1 1 _ rfl;go_enter Tryz.func208,Tryz.ntmps208;go_wp2_with fail;have HOWN1:=uZ hown1;have HG1:=uZ hg1;have HO1:=uZ (uY ((uX w).alloc (.cells [rv,bv].toArray 43)) hg1);clear hown1 hg1;refine(KC.out _ (HW.out.trans HO1.out)).mono ?_;rintro e w2 ⟨v6,rfl,s6,g2,f6⟩;obtain⟨A6,c6,rfl,hl6,hc6,hr6⟩:=s6.open_;unfold maxLen at hc6;have HR0:=uZ (show UnR (w.alloc (.cells [rv,bv].toArray 43)) (.slice A6 ks.length c6) ks hd g 0 (.slice none 0 0) w2 from⟨HG1.out.trans g2,⟨hd,by simp,aZ HOWN1.out g2⟩,s6,fun _ b hb hb6=>by have h1:=(HOWN1.out.lt b hb).2;have h2:=f6 b hb6;omega⟩);exact c_11
 ·have h0':(x != 0)=true:=by simpa using h0
  have hhd:hd=[x]:=by rw[← HHD.out,if_neg h0]
  have HHX:=uZ hhd;clear h0 HHD hhd;go_enter Tryz.func208,Tryz.ntmps208;go_wp2_with (at_builtin;refine wpList_append_lies _ rfl _ _ 38 rfl (w.alloc (.cells [rv,bv].toArray 43)).heap.size 3 i0 (.int .i64 0) 1 8 Tryz.underlying38 hi hz0 hz1 hz2 rfl b_53 _ 0 [] b_55 (World.ownsRow_nil _ _ _ _) ⟨w.heap.size+1,0,none⟩ 1 1 [.int .i64 x] b_55 rfl (fun j u hj=>by rw[bT,Nat.zero_add];have:=yQ (uX ((w.alloc (.cells [rv,bv].toArray 43)).alloc (.cells [Value.int .i64 x].toArray 3))) j u hj;rwa [World.size_alloc] at this) b_45 b_53 b_47 b_53 b_54 _ rfl ?_;intro ga1 cap1 w1 hown0 hgr1 hat1 hlt1;have hown1:w1.ownsRow (w.alloc (.cells [rv,bv].toArray 43)).heap.size 3 1 (.slice (some ⟨ga1,0,none⟩) 1 cap1) hd.length (hd.flatMap eE):=(by rw[HHX.out];exact hown0);clear hown0;have hg1:aA (w.alloc (.cells [rv,bv].toArray 43)) w1:=Below.grown ((uX _).alloc _) hgr1 b_54 (fun k e=>by simp[Value.ownBlock] at e);have t0:=yQ hg1 0 _ rfl;have t1:=yQ hg1 1 _ rfl;clear hgr1 hat1 hlt1)
  have HOWN1:=uZ hown1;have HG1:=uZ hg1;have HO1:=uZ (uY ((uX w).alloc (.cells [rv,bv].toArray 43)) hg1);clear hown1 hg1;refine(KC.out _ (HW.out.trans HO1.out)).mono ?_;rintro e w2 ⟨v6,rfl,s6,g2,f6⟩;obtain⟨A6,c6,rfl,hl6,hc6,hr6⟩:=s6.open_;unfold maxLen at hc6;have HR0:=uZ (show UnR (w.alloc (.cells [rv,bv].toArray 43)) (.slice A6 ks.length c6) ks hd g 0 (.slice (some ⟨ga1,0,none⟩) 1 cap1) w2 from⟨HG1.out.trans g2,⟨hd,by simp,aZ HOWN1.out g2⟩,s6,fun _ b hb hb6=>by have h1:=(HOWN1.out.lt b hb).2;have h2:=f6 b hb6;omega⟩);exact c_11
def aHh (t:Tr) (x:Int):Int:=match aE t.brs x with
 | none=>-1
 | some b=>b.parent
def rL (t:Tr) (S:List Int) (p:Int):List Int:=S.filter fun x=>aHh t x == p
theorem oI {g:Int→List Int}:∀ {L:List Int},L.Nodup→∀ {k:Int},k∈L→(∀ j∈L,j≠k→g j=[])→L.flatMap g=g k
 | [],_,k,hk,_=>absurd hk List.not_mem_nil
 | x::r,hn,k,hk,h=>by
  have hn':=List.nodup_cons.1 hn;rw[List.flatMap_cons];rcases List.mem_cons.1 hk with e|hk'
  ·subst e
   have:r.flatMap g=[]:=by
    rw[List.flatMap_eq_nil_iff];exact fun j hj=>h j (List.mem_cons_of_mem _ hj) (fun e=>hn'.1 (e▸hj))
   rw[this,List.append_nil]
  ·rw[h x (List.mem_cons_self ..) (fun e=>hn'.1 (e▸hk')),List.nil_append]
   exact oI hn'.2 hk' fun j hj hne=>h j (List.mem_cons_of_mem _ hj) hne
theorem mH {g:Int→List Int}:∀ {L:List Int},(∀ j∈L,g j=[j])→L.flatMap g=L
 | [],_=>rfl
 | x::r,h=>by
  rw[List.flatMap_cons,h x (List.mem_cons_self ..),mH fun j hj=>h j (List.mem_cons_of_mem _ hj)];rfl
theorem rQ {t:Tr} (h:bP t.brs) {b:Br} (hb:b∈t.brs):aHh t b.id=b.parent:=by
 unfold aHh;rw[dN h hb]
theorem aAh (t:Tr) (L:List Int) (g:Int→List Int) (p:Int):rL t (L.flatMap g) p=L.flatMap fun k=>rL t (g k) p:=by
 unfold rL;rw[List.filter_flatMap]
theorem aRn (t:Tr) (S T:List Int) (p:Int):rL t (S++T) p=rL t S p++rL t T p:=by
 unfold rL;rw[List.filter_append]
theorem aJf {l:List Br} (h:bP l) {a b x:Int} (ha:bR l a x) (hb:bR l b x):bR l a b∨bR l b a:=by
 induction ha with
 | self=>exact .inr hb
 | @step c hc hp hu ih =>
  by_cases e:c.id=b
  ·exact .inl (by rw[← e];exact bR.step hc hp hu)
  ·exact ih (lO h hc e hb).2
theorem yR {t:Tr} (h:bG t) {n x:Int} {b c:Br} (hb:b∈t.brs) (hc:c∈t.brs) (hbp:b.parent=n) (hcp:c.parent=n) (h1:bR t.brs b.id x) (h2:bR t.brs c.id x):b.id=c.id:=by
 obtain⟨r,hr⟩:=h.rank
 have key:∀ {b c:Br},b∈t.brs→c∈t.brs→b.parent=n→c.parent=n→bR t.brs b.id c.id→b.id=c.id:=by
  intro b c hb hc hbp hcp hu;refine Classical.byContradiction fun hne=>?_
  obtain⟨h3,h4⟩:=lO h.asc hc (fun e=>hne e.symm) hu;have h5:=pU hr h4;have h6:=hr b hb (by rw[hbp,← hcp];exact h3);rw[hcp] at h5;rw[hbp] at h6;omega
 rcases aJf h.asc h1 h2 with hu|hu
 ·exact key hb hc hbp hcp hu
 ·exact(key hc hb hcp hbp hu).symm
theorem nM {t:Tr} (h:bG t) {n:Int} (hn:n≠0):¬ bR t.brs n 0:=by
 intro hu
 have key:∀ x,bR t.brs n x→x≠0:=by
  intro x hx
  cases hx with
  | self=>exact hn
  | step hb _ _=>exact cC (h.units _ hb)
 exact key 0 hu rfl
theorem aTk {t:Tr} (h:bG t) {n k:Int} (hn:n=0∨∃ b∈t.brs,b.id=n) (hk:k∈aB t n):∃ c∈t.brs,c.parent=n∧c.id=k:=(dY h hn).1 hk
theorem mL {t:Tr} (h:bG t) {n:Int} (hn:n=0∨∃ b∈t.brs,b.id=n):(aB t n).Nodup:=(((bX t).1 h).2 n hn).1
theorem vO {t:Tr} (h:bG t):∀(f:Nat) (b:Br) (d:Nat),b∈t.brs→dJ t.brs t.brs.length b=some d→t.brs.length≤f+d→∀ p,(p=0∨∃ c∈t.brs,c.id=p) →
  (bR t.brs b.id p→rL t (cO t f b.id) p=aB t p)∧(¬ bR t.brs b.id p→rL t (cO t f b.id) p=if b.parent=p then[b.id] else[]):=by
 intro f
 induction f with
 | zero =>
  intro b d hb hd hf p hp
  have hno:aB t b.id=[]:=by
   rw[List.eq_nil_iff_forall_not_mem];intro k hk;obtain⟨c,hc,hcp,_⟩:=aTk h (.inr ⟨b,hb,rfl⟩) hk;have h1:=fT h hb hc hcp hd;have h2:=lA h.asc hc h1;omega
  have hpb:=rQ h.asc hb
  have hone:rL t (cO t 0 b.id) p=if b.parent=p then[b.id] else[]:=by
   unfold cO rL;rw[List.filter_cons,hpb];by_cases e:b.parent=p
   ·simp[e]
   ·simp[e]
  refine⟨fun hu=>?_,fun _=>hone⟩;rcases jY h ⟨b,hb,rfl⟩ hu with e|⟨k,hk,_⟩
  ·rw[hone,e,hno,if_neg]
   intro e2;obtain⟨r,hr⟩:=h.rank;have h3:=hr b hb (by rw[e2];exact cC (h.units b hb));rw[e2] at h3;omega
  ·rw[hno] at hk
   cases hk
 | succ f ih =>
  intro b d hb hd hf p hp;have hnb:b.id=0∨∃ c∈t.brs,c.id=b.id:=.inr ⟨b,hb,rfl⟩;have hpb:=rQ h.asc hb
  have hkid:∀ k∈aB t b.id,∃ c∈t.brs,c.parent=b.id∧c.id=k∧(bR t.brs k p→rL t (cO t f k) p=aB t p)∧(¬ bR t.brs k p→rL t (cO t f k) p=if b.id=p then[k] else[]):=by
   intro k hk;obtain⟨c,hc,hcp,e⟩:=aTk h hnb hk;have:=ih c (d+1) hc (fT h hb hc hcp hd) b_53 p hp;rw[e,hcp] at this;exact⟨c,hc,hcp,e,this⟩
  have hsplit:rL t (cO t (f+1) b.id) p=(if b.parent=p then[b.id] else[])++(aB t b.id).flatMap fun k=>rL t (cO t f k) p:=by
   have:cO t (f+1) b.id=[b.id]++(aB t b.id).flatMap (cO t f):=rfl;rw[this,aRn,aAh]
   congr 1
   unfold rL;rw[List.filter_cons,hpb];by_cases e:b.parent=p
   ·simp[e]
   ·simp[e]
  obtain⟨r,hr⟩:=h.rank;constructor
  ·intro hu
   have hne:b.parent≠p:=by
    intro e;have h1:=pU hr hu;rcases hp with hp|⟨c,hc,e2⟩
    ·rw[hp] at hu
     exact nM h (cC (h.units b hb)) hu
    ·have h2:=hr b hb (by rw[e,← e2];exact cC (h.units c hc))
     rw[e] at h2;omega
   rw[hsplit,if_neg hne,List.nil_append];by_cases e:b.id=p
   ·refine(mH fun k hk=>?_).trans (by rw[e])
    obtain⟨c,hc,hcp,ek,_,h2⟩:=hkid k hk;rw[h2,if_pos e];intro hu2;have h3:=pU hr hu2;have h4:=hr c hc (by rw[hcp];exact cC (h.units b hb));rw[hcp,ek,e] at h4;omega
   ·rcases jY h ⟨b,hb,rfl⟩ hu with e2|⟨k,hk,hku⟩
    ·exact absurd e2.symm e
    ·obtain⟨c,hc,hcp,ek,h1,_⟩:=hkid k hk
     rw[oI (mL h hnb) hk,h1 hku];intro j hj hjk;obtain⟨c2,hc2,hcp2,ek2,_,h2⟩:=hkid j hj;rw[h2,if_neg e];intro hju;refine hjk ?_;rw[← ek,← ek2];exact yR h hc2 hc hcp2 hcp (by rw[ek2];exact hju) (by rw[ek];exact hku)
  ·intro hu
   have e:b.id≠p:=fun e=>hu (by rw[← e];exact bR.self)
   rw[hsplit]
   have:((aB t b.id).flatMap fun k=>rL t (cO t f k) p)=[]:=by
    rw[List.flatMap_eq_nil_iff];intro k hk;obtain⟨c,hc,hcp,ek,_,h2⟩:=hkid k hk;rw[h2,if_neg e];intro hku;refine hu (sD ?_ hku);rw[← ek];exact bR.step hc (by rw[hcp];exact cC (h.units b hb)) (by rw[hcp];exact bR.self)
   rw[this,List.append_nil]
theorem aUs {t:Tr} (h:bG t) {x:Int} (hx:∃ b∈t.brs,b.id=x):∃ r∈t.roots,bR t.brs r x:=by
 obtain⟨r,hr⟩:=h.rank
 have key:∀ n (b:Br),b∈t.brs→r b.id≤n→∃ k∈t.roots,bR t.brs k b.id:=by
  intro n
  induction n with
  | zero =>
   intro b hb hn;by_cases hp:b.parent=0
   ·exact⟨b.id,(h.roots.2 _).2 ⟨b,hb,hp,rfl⟩,bR.self⟩
   ·have:=hr b hb hp
    omega
  | succ n ih =>
   intro b hb hn;by_cases hp:b.parent=0
   ·exact⟨b.id,(h.roots.2 _).2 ⟨b,hb,hp,rfl⟩,bR.self⟩
   ·have h1:=hr b hb hp
    rcases fA h hb with e|⟨c,hc,e⟩
    ·exact absurd e hp
    ·obtain⟨k,hk,hku⟩:=ih c hc (by rw[e];omega)
     exact⟨k,hk,bR.step hb hp (by rw[← e];exact hku)⟩
 obtain⟨b,hb,e⟩:=hx;obtain⟨k,hk,hku⟩:=key (r b.id) b hb (Nat.le_refl _);exact⟨k,hk,by rw[← e];exact hku⟩
theorem oK (t:Tr):aB t 0=t.roots:=by
 unfold aB;rw[if_pos rfl]
theorem aFu {t:Tr} (h:bG t) (p:Int) (hp:p=0∨∃ b∈t.brs,b.id=p):rL t (bA t 0) p=aB t p:=by
 have hroot:∀ k∈t.roots,∃ c∈t.brs,c.parent=0∧c.id=k∧(bR t.brs k p→rL t (cO t t.brs.length k) p=aB t p)∧(¬ bR t.brs k p→rL t (cO t t.brs.length k) p=if 0=p then[k] else[]):=by
  intro k hk;obtain⟨c,hc,hcp,e⟩:=(h.roots.2 k).1 hk;obtain⟨d,hd,_⟩:=gZ h hc;have:=vO h t.brs.length c d hc hd b_53 p hp;rw[e,hcp] at this;exact⟨c,hc,hcp,e,this⟩
 unfold bA;rw[if_pos rfl,aAh];rcases hp with hp|hp
 ·subst hp
  rw[oK];refine mH fun k hk=>?_
  obtain⟨c,hc,hcp,ek,_,h2⟩:=hroot k hk;rw[h2,if_pos rfl];rw[← ek];exact nM h (cC (h.units c hc))
 ·obtain⟨k,hk,hku⟩:=aUs h hp
  obtain⟨c,hc,hcp,ek,h1,_⟩:=hroot k hk;rw[oI h.roots.1 hk,h1 hku];intro j hj hjk;obtain⟨c2,hc2,hcp2,ek2,_,h2⟩:=hroot j hj;obtain⟨b,hb,e⟩:=hp;rw[h2,if_neg]
  ·rw[← e]
   exact fun e2=>cC (h.units b hb) e2.symm
  ·intro hju
   refine hjk ?_;rw[← ek,← ek2];exact yR h hc2 hc hcp2 hcp (by rw[ek2];exact hju) (by rw[ek];exact hku)
theorem tN {t:Tr} (h:bG t) (x:Int):x∈bA t 0↔∃ b∈t.brs,b.id=x:=by
 constructor
 ·intro hx
  unfold bA at hx;rw[if_pos rfl] at hx;obtain⟨k,hk,hx⟩:=List.mem_flatMap.1 hx;obtain⟨c,hc,_,e⟩:=(h.roots.2 k).1 hk;obtain⟨d,hd,_⟩:=gZ h hc;rw[← e] at hx;exact nX ⟨c,hc,rfl⟩ ((mY h _ c d hc hd b_53 x).1 hx)
 ·rintro ⟨b,hb,e⟩
  have h1:=aFu h b.parent (fA h hb);have h2:x∈aB t b.parent:=(dY h (fA h hb)).2 ⟨b,hb,rfl,e⟩;rw[← h1] at h2;exact(List.mem_filter.1 h2).1
theorem aOi {t:Tr} (h:bG t):(bA t 0).Nodup:=by
 rw[List.nodup_iff_count];intro x;by_cases hx:x∈bA t 0
 ·obtain⟨b,hb,e⟩:=(tN h x).1 hx
  have h1:=aFu h b.parent (fA h hb);have h2:=mL h (fA h hb);rw[← h1] at h2;have h3:=List.nodup_iff_count.1 h2 x;unfold rL at h3;rw[List.count_filter (by rw[← e,rQ h.asc hb];simp)] at h3;exact h3
 ·rw[List.count_eq_zero.2 hx]
  omega
def gC (t:Tr) (q:Int) (L:List Int):Prop:=∀ pre x post,L=pre++x::post→aHh t x=q∨aHh t x∈pre
theorem gC.nil (t:Tr) (q:Int):gC t q []:=fun pre x post e=>by simp at e
theorem gC.app {t:Tr} {q:Int} {L M:List Int} (h1:gC t q L) (h2:gC t q M):gC t q (L++M):=by
 intro pre x post e;rcases List.append_eq_append_iff.1 e with ⟨bs,e1,e2⟩|⟨bs,e1,e2⟩
 ·rcases h2 bs x post e2 with h|h
  ·exact .inl h
  ·exact .inr (by rw[e1];exact List.mem_append_right _ h)
 ·cases bs with
  | nil =>
   simp only [List.nil_append] at e2;rcases h2 [] x post e2.symm with h|h
   ·exact .inl h
   ·cases h
  | cons y bs =>
   simp only [List.cons_append,List.cons.injEq] at e2;obtain⟨rfl,e2⟩:=e2;exact h1 pre x bs e1
theorem gC.flat {t:Tr} {q:Int} {g:Int→List Int}:∀ {L:List Int},(∀ k∈L,gC t q (g k))→gC t q (L.flatMap g)
 | [],_=>gC.nil t q
 | x::r,h=>by
  rw[List.flatMap_cons];exact(h x (List.mem_cons_self ..)).app (gC.flat fun k hk=>h k (List.mem_cons_of_mem _ hk))
theorem wZ {t:Tr} {L:List Int} (h:∀ x∈L,(rL t L (aHh t x)).Nodup):L.Nodup:=by
 rw[List.nodup_iff_count];intro x;by_cases hx:x∈L
 ·have h3:=List.nodup_iff_count.1 (h x hx) x
  unfold rL at h3;rw[List.count_filter b_54] at h3;exact h3
 ·rw[List.count_eq_zero.2 hx]
  omega
theorem aDv {t:Tr} (h:bG t) (f:Nat) (b:Br) (d:Nat) (hb:b∈t.brs) (hd:dJ t.brs t.brs.length b=some d) (hf:t.brs.length≤f+d):(cO t f b.id).Nodup:=by
 refine wZ (t:=t) fun x hx=>?_
 obtain⟨c,hc,e⟩:=nX ⟨b,hb,rfl⟩ ((mY h f b d hb hd hf x).1 hx);rw[← e,rQ h.asc hc];have hp:=fA h hc;obtain⟨h1,h2⟩:=vO h f b d hb hd hf c.parent hp;by_cases hu:bR t.brs b.id c.parent
 ·rw[h1 hu]
  exact mL h hp
 ·rw[h2 hu]
  split<;>simp
theorem vU {t:Tr} (h:bG t) (f:Nat) (b:Br) (d:Nat) (hb:b∈t.brs) (hd:dJ t.brs t.brs.length b=some d) (hf:t.brs.length≤f+d):(cO t f b.id).length≤t.brs.length:=by
 have h1:=List.Nodup.length_le_of_subset (l₂:=t.brs.map Br.id) (aDv h f b d hb hd hf) (fun x hx=>by
  obtain⟨c,hc,e⟩:=nX ⟨b,hb,rfl⟩ ((mY h f b d hb hd hf x).1 hx)
  exact List.mem_map.2 ⟨c,hc,e⟩)
 rwa [List.length_map] at h1
theorem aAz {t:Tr} (h:bG t) (id:Int) (hid:id=0∨∃ b,aE t.brs id=some b):(bA t id).length≤t.brs.length:=by
 by_cases h0:id=0
 ·subst h0
  have h1:=List.Nodup.length_le_of_subset (l₂:=t.brs.map Br.id) (aOi h) (fun x hx=>by
   obtain⟨c,hc,e⟩:=(tN h x).1 hx
   exact List.mem_map.2 ⟨c,hc,e⟩)
  rwa [List.length_map] at h1
 ·obtain⟨b,hb⟩:=hid.resolve_left h0
  have hin:=bE hb;obtain⟨d,hd,_⟩:=gZ h hin.1;unfold bA;rw[if_neg h0,← hin.2];exact vU h _ b d hin.1 hd b_53
theorem aBa (t:Tr) (f:Nat) (x:Int):cO t f x≠[]:=by cases f<;>simp[cO]
theorem aUm (rs:List Int) (l:List Br) (id:Int) (rv bv:Value) (w:World) (hE:Env w) (hr:SlI w rv rs) (hv:bQ w bv l) (hf:cF l) (hrl:rs.length≤1000000) :
  Calls Tryz.prog 136 #[.agg #[rv,bv],.int .i64 id] w (qO (eC ⟨rs,l⟩ id) w):=by
 by_cases hT:aM ⟨rs,l⟩
 ·by_cases hz:qQ l id=0
  ·exact aYd rs l id rv bv w hE hr hv hf hrl (fun _=>by
    have h1:=aAz (bL hT) id (sG hz);have h2:(Tr.brs ⟨rs,l⟩).length=l.length:=rfl;have:=hf.1
    omega)
  ·exact rN rs l id rv bv w hE hr hv hf hrl (fun _=>hz)
 ·exact rN rs l id rv bv w hE hr hv hf hrl (fun h=>absurd h hT)
theorem aPr (rs:List Int) (l:List Br) (rv bv:Value) (w0:World) (hr:SlI w0 rv rs) (hv:bQ w0 bv l) (hf:cF l) (hrl:rs.length≤1000000) (hT:aM ⟨rs,l⟩):∀(f:Nat) (b:Br) (d:Nat),b∈l→dJ l l.length b=some d→l.length≤f+d→∀ W,aA w0 W →
  Calls Tryz.prog 208 #[.agg #[rv,bv],.int .i64 b.id] W (oM (cO ⟨rs,l⟩ f b.id) W):=by
 have hS:=bL hT;intro f
 induction f with
 | zero =>
  intro b d hb hd hfd W hG
  have hno:aB ⟨rs,l⟩ b.id=[]:=by
   exact c_62
  have he:cO ⟨rs,l⟩ 0 b.id=(if b.id=0 then[] else[b.id])++(aB ⟨rs,l⟩ b.id).flatMap (fun _=>[]):=by
   rw[hno,if_neg (cC (hS.units b hb))];rfl
  rw[he];exact lR rs l rv bv w0 hr hv hf hrl b.id _ (fun k hk=>by rw[hno] at hk;cases hk) (by rw[hno];split<;>simp) (fun k hk=>by rw[hno] at hk;cases hk) W hG
 | succ f ih =>
  intro b d hb hd hfd W hG;have hlen:=vU hS (f+1) b d hb hd hfd
  have he:cO ⟨rs,l⟩ (f+1) b.id=(if b.id=0 then[] else[b.id])++(aB ⟨rs,l⟩ b.id).flatMap (cO ⟨rs,l⟩ f):=by
   rw[if_neg (cC (hS.units b hb))];rfl
  rw[he] at hlen ⊢;refine lR rs l rv bv w0 hr hv hf hrl b.id (cO ⟨rs,l⟩ f) (fun k _=>aBa _ _ _) (by have h3:(Tr.brs ⟨rs,l⟩).length=l.length:=rfl;have:=hf.1;omega) (fun k hk=>?_) W hG;obtain⟨c,hc,hcp,e⟩:=(dY hS (.inr ⟨b,hb,rfl⟩)).1 hk;rw[← e];exact ih c (d+1) hc (fT hS hb hc hcp hd) b_53
theorem aKe (rs:List Int) (l:List Br) (rv bv:Value) (w0:World) (hr:SlI w0 rv rs) (hv:bQ w0 bv l) (hf:cF l) (hrl:rs.length≤1000000) (hT:aM ⟨rs,l⟩) (id:Int) (hid:id=0∨∃ b,aE l id=some b) (W:World) (hG:aA w0 W) :
  Calls Tryz.prog 208 #[.agg #[rv,bv],.int .i64 id] W (oM (bA ⟨rs,l⟩ id) W):=by
 have hS:=bL hT;have hU:=aPr rs l rv bv w0 hr hv hf hrl hT;have hlen:=aAz hS id hid;have h3:(Tr.brs ⟨rs,l⟩).length=l.length:=rfl;have hfl:=hf.1;by_cases h0:id=0
 ·subst h0
  have he:bA ⟨rs,l⟩ 0=(if (0:Int)=0 then[] else[0])++(aB ⟨rs,l⟩ 0).flatMap (cO ⟨rs,l⟩ l.length):=by
   rw[oK];unfold bA;rw[if_pos rfl,if_pos rfl,List.nil_append]
  rw[he] at hlen ⊢;refine lR rs l rv bv w0 hr hv hf hrl 0 (cO ⟨rs,l⟩ l.length) (fun k _=>aBa _ _ _) b_53 (fun k hk=>?_) W hG;rw[oK] at hk;obtain⟨c,hc,_,e⟩:=(hS.roots.2 k).1 hk;obtain⟨d,hd,_⟩:=gZ hS hc;rw[← e];exact hU l.length c d hc hd b_53
 ·obtain⟨b,hb⟩:=hid.resolve_left h0
  have hin:=bE hb;obtain⟨d,hd,_⟩:=gZ hS hin.1;unfold bA;rw[if_neg h0,← hin.2];exact hU l.length b d hin.1 hd b_53 W hG
theorem oM.is {r:List Int} {w w':World} {v:Value} (h:SlI w' v r) (hg:aA w w'):aWv (r,0) w (.returned (.tuple #[v,.int .i64 0])) w':=⟨v,rfl,h,hg⟩
theorem gO (rs:List Int) (l:List Br) (id:Int) (rv bv:Value) (w:World) (hr:SlI w rv rs) (hv:bQ w bv l) (hf:cF l) (hrl:rs.length≤1000000) (hm:∀ i (h:i<l.length),l[i].mark.size≤9223372036854775807) :
  Calls Tryz.prog 154 #[.agg #[rv,bv],.int .i64 id] w (aWv (eC ⟨rs,l⟩ id) w):=by
 have HK:=uZ (fun W (hW:aA w W)=>aPx rs l id true rv bv W (hr.mono hW) (hv.mono hW) hf hrl hm);have HU:=uZ (fun hT hid W (hG:aA w W)=>aKe rs l rv bv w hr hv hf hrl hT id hid W hG)
 have htop:qQ l id=if ((aE l id).isSome || (true && (id == 0))) then 0 else 7:=by
  unfold qQ;by_cases h0:id=0
  ·simp[h0]
  ·rw[if_neg h0]
   cases hb:aE l id<;>simp[nO,h0,hb]
 have HN:RowKit.Hid (∀ n:Int,(¬ aM ⟨rs,l⟩→n=1)→(aM ⟨rs,l⟩→n=if ((aE l id).isSome || (true && (id == 0))) then 0 else 7)→n≠0→eC ⟨rs,l⟩ id=([],n)):=fun n h1 h2 h3=>by
  unfold eC;by_cases hT:aM ⟨rs,l⟩
  ·have h4:=h2 hT
   rw[← htop] at h4;rw[if_pos hT];show(if qQ l id=0 then(bA ⟨rs,l⟩ id,(0:Int)) else([],qQ l id))=_;rw[if_neg (by rw[← h4];exact h3),h4]
  ·rw[if_neg hT,h1 hT]
 have HZ:RowKit.Hid ((¬ aM ⟨rs,l⟩→(0:Int)=1)→(aM ⟨rs,l⟩→(0:Int)=if ((aE l id).isSome || (true && (id == 0))) then 0 else 7)→aM ⟨rs,l⟩∧(id=0∨∃ b,aE l id=some b)∧eC ⟨rs,l⟩ id=(bA ⟨rs,l⟩ id,0)):=fun h1 h2=>by
  have hT:aM ⟨rs,l⟩:=Classical.byContradiction fun h=>by have:=h1 h;omega
  have h4:=h2 hT;rw[← htop] at h4;refine⟨hT,sG h4.symm,?_⟩;unfold eC;rw[if_pos hT];show(if qQ l id=0 then(bA ⟨rs,l⟩ id,(0:Int)) else([],qQ l id))=_;rw[if_pos h4.symm]
 generalize eC ⟨rs,l⟩ id=RES at HN HZ ⊢;clear hr hv hf hrl hm htop;go_enter Tryz.func154,Tryz.ntmps154;go_wp2_with fail;refine(HK.out _ ((uX w).alloc _)).mono ?_;rintro e w1 ⟨n,rfl,h1,h2,g1⟩;have t0:=yQ g1 0 _ rfl;have t1:=yQ g1 1 _ rfl;have HG:=h_221;have H1:=uZ h1;have H2:=uZ h2;clear g1 h1 h2;dsimp only;by_cases hz:n=0
 ·subst hz
  obtain⟨hT,hid,hb⟩:=HZ.out H1.out H2.out;have KU:=uZ (HU.out hT hid);clear HU HN HZ H1 H2 HK;generalize bA ⟨rs,l⟩ id=L at KU hb;subst hb;clear hT hid;go_wp2_with fail;refine(KU.out _ HG.out).mono ?_;rintro e w2 ⟨v2,rfl,s2,g2,-⟩;have S2:=uZ s2;have HG2:=uZ (HG.out.trans g2);clear s2 g2 t0 t1;dsimp only;go_wp2;go_ret2;exact oM.is S2.out HG2.out
 ·have hb:=HN.out n H1.out H2.out hz
  subst hb;have hz':(n != 0)=true:=by simpa using hz
  clear hz HN HZ HU;go_wp2;go_ret2;exact⟨_,rfl,SlI.nil _,HG.out⟩
theorem aDw {t:Tr} (h:aM t) {n:Int} {u:Br} (hb:aE t.brs n=some u):eC t n=(bA t n,0):=by
 have e:qQ t.brs n=0:=by
  unfold qQ nO;split
  ·rfl
  ·rw[if_pos (by simp[hb])]
 unfold eC;rw[if_pos h,if_pos e]
theorem aPe {t:Tr} {u:Br} (h:bG t):bP (jZ t u).brs:=by
 unfold jZ;rw[dH];split
 ·exact h.asc
 ·exact List.Pairwise.map _ (fun a b hab=>by unfold jD;(repeat' split)<;>exact hab) h.asc
section
variable {w0:World} {E:Nat} {bv:Value} {t:Tr} {o:Opn} {u:Br} {W:World}
theorem aLu (h:EdB w0.heap.size E bv t W) (hS:bG t) (hR:aM t) (hEnv:Env W) (hb:aE t.brs o.unit=some u) {rv:Value} (h0:W.cell? ⟨E,0,none⟩=some rv) :
  Calls Tryz.prog 136 #[.agg #[rv,bv],.int .i64 o.unit] W fun e w'=>∃ v,e=.returned (.tuple #[v,.int .i64 0])∧SlI w' v (bA t o.unit)∧aA W w':=by
 obtain⟨rv',hr,hbr,c0,-,-,-⟩:=h.reads;obtain rfl:rv'=rv:=Option.some.inj (c0.symm.trans h0);have hT:=jF hS;refine(aUm t.roots t.brs o.unit rv' bv W hEnv hr hbr hT.few hT.roots).mono fun e w' hm=>?_
 obtain⟨v,e1,e2,e3⟩:=qO.is_ hm;have e4:eC ⟨t.roots,t.brs⟩ o.unit=(bA t o.unit,0):=aDw (t:=t) hR hb;rw[e4] at e1 e2;exact⟨v,e1,e2,e3⟩
theorem aLt (h:EdB w0.heap.size E bv (jZ t u) W) (hG:aA w0 W) (hS:bG t) {i:Nat} {B cap:Nat} (hi:i<(jZ t u).brs.length) (hbv:bv=.slice (some ⟨B,0,none⟩) (jZ t u).brs.length cap) (hn:(jZ t u).brs[i].id=u.id) (p:Int) :
  EdB w0.heap.size E bv (oZ t u p) (W.setCell ⟨B,i*6+1,none⟩ (.int .i64 p))∧aA w0 (W.setCell ⟨B,i*6+1,none⟩ (.int .i64 p))∧W.frozen? ⟨B,i*6+1,none⟩=false∧∃ v,W.cell? ⟨B,i*6+1,none⟩=some v:=by
 obtain⟨rv,cs,hE⟩:=h;obtain⟨-,c1,-,-,-,-,hz,hlo,-⟩:=hE.at_ hi hbv;have hf:=hE.field (aPe hS) hi (j:=1) b_53 hbv (fun b=>{ b with parent:=p }) (.int .i64 p) (fun _=>rfl) rfl;rw[hn] at hf;exact⟨hf,hG.setCell (p:=⟨B,i*6+1,none⟩) hlo _,hz _,_,c1⟩
theorem xB (hS:bG t) (hc:qP t o u) (hp:u.parent=0∨∃ b∈t.brs,b.id=u.parent) (h:EdB w0.heap.size E bv (oZ t u o.parent) W) (hG:aA w0 W) :
  Calls Tryz.prog 134 #[.pointer (some ⟨E,0,none⟩),.int .i64 o.unit,.int .i64 o.parent,.int .i64 o.before] W fun e w'=>e=.returned (.tuple #[])∧EdB w0.heap.size E bv (jM t o u) w'∧aA w0 w':=by
 obtain⟨p1,p2,p3⟩:=aQq hS hc hp;have hT:=jF hS;have:=bAh h hG (aQt hS) (by rw[aQr];exact hT.len) (p:=o.parent) ((gR hc.stands).imp_right fun hx=>(aQs o.parent).2 hx) o.unit o.before p1 p2 p3;rw[aVh hc] at this;exact this
open Classical in
theorem pA (hS:bG t) (hc:qP t o u) (h:EdB w0.heap.size E bv (jM t o u) W) (hEnv:Env W) :
  Calls Tryz.prog 135 #[.pointer (some ⟨E,0,none⟩)] W fun e w'=>e=.returned (.int .i64 (if aM (jM t o u) then 0 else 15))∧aA W w':=aNf h (jF (vB hS hc)) hEnv
end
section
variable {w0:World} {E:Nat} {bv:Value} {t:Tr} {w:World}
def zGf:=Unit
theorem zGf.g {p:Prop} (_:zGf) (h:p:=by
 clear hE hEw hG hWW hasc hlen hp c1 hbv hkat hK;go_enter Tryz.func137,Tryz.ntmps137;go_wp2_with fail;refine(KB.out _ (HWW.out.trans ((uX WW).alloc _))).mono ?_;rintro e w1 ⟨rfl,g1⟩;have b0:=yQ (cs:=[.int .i64 n]) g1 0 _ rfl;have HG1:=uZ (HWW.out.trans (((uX WW).alloc _).trans g1));have HW1:=uZ (((uX WW).alloc _).trans g1);have c1:=uQ HG1.out C1.out;clear g1;dsimp only;go_wp2_with fail;refine(KK.out _ HG1.out).mono ?_;rintro e w2 ⟨rfl,g2⟩;have hk2:=HKAT.out.grew (HG1.out.trans g2);have b2:=uQ g2 b0;have d1:=hk2.cell;have HKAT2:=uZ hk2;have HG2:=uZ (HG.out.trans (HG1.out.trans g2));have HW2:=uZ (HW1.out.trans g2)
 have hbox:some WW.heap.size≠kv.ownBlock:=fun e=>by
  have:=(HKAT.out.own.lt _ e.symm).2;have:=HWW.out.size;omega
 have HLK:=uZ (fun b (e:kv.ownBlock=some b)=>(HKAT.out.own.lt b e).2);have HLA:=uZ HKAT.out.lt;have hdel:=tI (aB t p) (fun x=>x == n) 191 #[.pointer (some ⟨WW.heap.size,0,none⟩)] nR w0.heap.size kv w2 HG2.out.size hk2.own (fun W x hW _=>aNe n WW.heap.size x W (hW.cell b2 hbox));have HDEL:=uZ hdel;obtain⟨Ak,ck,rfl⟩:=aJ hk2.own;clear g2 hk2 hdel b0 c1 hbox;generalize aB t p=L at HDEL HR d1 HKAT2 HLK;dsimp only;go_wp2_with fail;refine HDEL.out.mono ?_;rintro e w3 ⟨v3,rfl,own3,hat3,-,hgr3⟩;obtain⟨A3,d3,rfl⟩:=aJ own3;have HFIN:=uZ (aEs (R:=R) HKAT2.out HR.out HG2.out own3 hgr3 hat3);have c3:=hgr3.cell d1 (fun e=>HKAT2.out.off e.symm);have f3:=h_64
 have HKP:=uZ (fun(p:Addr) x (hx:WW.cell? p=some x) (hp:w.heap.size≤p.block)=>(show(w3.setCell ⟨ab,ao,none⟩ (.slice A3 (L.filter fun x=>!(x == n)).length d3)).cell? p=some x from by
  rw[World.cell?_setCell_far _ _ _ _ (fun e=>by have:=HLA.out;dsimp only at e this;omega)]
  exact hgr3.cell (uQ HW2.out hx) (fun e=>by have:=HLK.out _ e.symm;omega)))
 clear own3 hgr3 hat3;dsimp only;go_wp2
 go_end0
 exact⟨rfl,HFIN.out.1,HFIN.out.2,HKP.out⟩
):p:=h
theorem aRr (h:EdB w0.heap.size E bv t w) (hG:aA w0 w) (WW:World) (hWW:aA w WW) (hasc:bP t.brs) (hlen:t.brs.length≤1000000) {i:Nat} (hi:i<t.brs.length) (hp:t.brs[i].parent=0∨∃ b∈t.brs,b.id=t.brs[i].parent) :
  Calls Tryz.prog 137 #[.pointer (some ⟨E,0,none⟩),.int .i64 t.brs[i].id] WW fun e w'=>e=.returned (.tuple #[])∧EdB w0.heap.size E bv (fW t t.brs[i].parent (aI t.brs[i].id (aB t t.brs[i].parent))) w'∧aA w0 w'∧∀ p x,WW.cell? p=some x→w.heap.size≤p.block→w'.cell? p=some x:=by
 have HWW:=uZ hWW;have nX:zGf:=()
 exact s_33
end
end Go.Proofs.YtdochkemaiokfaaGreat




