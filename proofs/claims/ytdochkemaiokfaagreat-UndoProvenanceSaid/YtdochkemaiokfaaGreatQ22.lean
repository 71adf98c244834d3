/- Lemmas on what the functions of the program and of the library compute: Ap3. The conditions stand at each. -/
import Derived.Test.YtdochkemaiokfaaGreatQ21
/- rearrange: Apply, walked: what it returns is applyR. The conditions: the lists are short; the kind is an int; the library's own variables hold what they must. -/
namespace Go.Proofs.YtdochkemaiokfaaGreat
open Go.RowKit
def RetTr (R:Tr × Int) (w:World) (e:Ending) (w':World):Prop:=∃ rv bv,e=.returned (.tuple #[.agg #[rv,bv],.int .i64 R.2])∧TrOk w' rv bv R.1∧Grew w w'
theorem slBr_nil (w:World):SlBr w (.slice none 0 0) []:=⟨[],SlB.nil w,rfl,fun _ h=>absurd h (Nat.not_lt_zero _)⟩
theorem RetTr.none {w w':World} {n:Int} (g:Grew w w'):RetTr (⟨[],[]⟩,n) w (.returned (.tuple #[.agg #[.slice none 0 0,.slice none 0 0],.int .i64 n])) w':=⟨_,_,rfl,⟨SlI.nil _,slBr_nil _⟩,g⟩
theorem Ed.setOther {base E P j:Nat} {rv bv u:Value} {cs:List BrC} {t:Tr} {w:World} {cur:Array Value} (h:Ed base E rv bv cs t w) (hP:w.heap[P]? = some (.cells cur 43 (0,0))):Ed base E rv bv cs t (w.setCell ⟨P,j,none⟩ u) where
 le:=h.le
 box:=heap_set _ _ h.box (fun e=>by
  rw[e] at h
  have hb:=h.box
  rw[hP] at hb
  injection hb with hb
  injection hb with _ hb _
  exact absurd hb (by decide))
 roots:=ownsRow_setCell_other h.roots (own_ne h.roots hP ne_IT) _
 brs:=ownsRow_setCell_other h.brs (own_ne h.brs hP ne_BT) _
 len:=h.len
 each:=fun i hi hi'=>⟨(h.each i hi hi').1,ownsRow_setCell_other (h.each i hi hi').2 (own_ne (h.each i hi hi').2 hP ne_IT) _⟩
 apart:=h.apart
theorem res_cells {W:World} {P:Nat} {v0 v1 x0 x1:Value} (h0:W.cell? ⟨P,0,none⟩=some x0) (h1:W.cell? ⟨P,1,none⟩=some x1):((W.setCell ⟨P,0,none⟩ v0).setCell ⟨P,1,none⟩ v1).cell? ⟨P,0,none⟩=some v0∧((W.setCell ⟨P,0,none⟩ v0).setCell ⟨P,1,none⟩ v1).cell? ⟨P,1,none⟩=some v1:=by
 refine⟨?_,World.cell?_setCell_same' _ _ _ (by rw[World.cell?_setCell_other _ _ _ _ (by simp),h1];rfl)⟩
 rw[World.cell?_setCell_other _ _ _ _ (by simp)]
 exact World.cell?_setCell_same' _ _ _ (by rw[h0];rfl)
theorem apply_out {w w2 w4:World} {E P:Nat} {rv bv:Value} {cs:List BrC} {R:Tr} {c:Array Value} (h:Ed w2.heap.size E rv bv cs R w4) (hP:w4.heap[P]? = some (.cells c 43 (0,0))) (hlo:w.heap.size≤P) (hG:Grew w w4) :
  RetTr (R,0) w (.returned (.tuple #[.agg #[rv,bv],.int .i64 0])) ((w4.setCell ⟨P,0,none⟩ rv).setCell ⟨P,1,none⟩ bv):=by
 have hP2:=heap_setCell_same w4 P 0 c 43 rv hP
 have h2:=(h.setOther (j:=0) (u:=rv) hP).setOther (j:=1) (u:=bv) hP2
 exact⟨rv,bv,rfl,h2.tree,(hG.setCell hlo _).setCell hlo _⟩
theorem applyR_err (t:Tr) (o:Opn) (h:(applyR t o).2≠0):(applyR t o).1=⟨[],[]⟩:=by
 unfold applyR at h ⊢
 split
 ·rfl
 ·rename_i h1
  rw[if_neg h1] at h
  split
  ·rfl
  ·rename_i h2
   rw[if_neg h2] at h
   split
   ·rename_i h3
    rw[if_pos h3] at h
    exact absurd rfl h
   ·rfl
set_option maxHeartbeats 16000000 in
set_option maxRecDepth 100000 in
theorem rApply (t:Tr) (o:Opn) (rv bv:Value) (w:World) (hE:Env w) (hr:SlI w rv t.roots) (hv:SlBr w bv t.brs) (hf:FewBr t.brs) (hrl:t.roots.length≤1000000) (hkw:(Lit.int .i64 o.kind).wf=true) :
  Calls Tryz.prog 67 #[.agg #[rv,bv],o.agg] w (RetTr (applyR t o) w):=by
 have HE:=Lib.hid hE
 have KR:=Lib.hid (fun W (hW:Grew w W)=>fRight t.roots t.brs rv bv W (hE.mono hW) (hr.mono hW) (hv.mono hW) hf hrl)
 have KE:=Lib.hid (fun W (hW:Grew w W)=>rEdit t rv bv W (hr.mono hW) (hv.mono hW) hf hrl)
 have kF:=fun W (hW:Grew w W)=>fFormed o W (hE.mono hW)
 have k1:=fun w0 E bv w (h:EdB w0.heap.size E bv t w) hG hEnv hR hf hk=>do1 (o:=o) (w0:=w0) h hG hEnv hR hf hk
 have k2:=fun w0 E bv w (h:EdB w0.heap.size E bv t w) hG hEnv hR hf hk=>do2 (o:=o) (w0:=w0) h hG hEnv hR hf hk
 have k3:=fun w0 E bv w (h:EdB w0.heap.size E bv t w) hG hR hf hk=>do3 (o:=o) (w0:=w0) h hG hR hf hk
 have k4:=fun w0 E bv w (h:EdB w0.heap.size E bv t w) hG hR hf hk=>do4 (o:=o) (w0:=w0) h hG hR hf hk
 have k5:=fun w0 E bv w (h:EdB w0.heap.size E bv t w) hG hR hf hk=>do5 (o:=o) (w0:=w0) h hG hR hf hk
 have hoff:=applyR_off (t:=t) (o:=o)
 have herr:=applyR_err t o
 generalize applyR t o=RES at k1 k2 k3 k4 k5 hoff herr ⊢
 obtain⟨RT,n⟩:=RES
 dsimp only at herr
 have HERR:=Lib.hid herr
 clear herr
 obtain⟨Ar,cr,rfl,-⟩:=hr.open_
 obtain⟨Ab,cb,rfl,-⟩:=hv.open_
 clear hr hv hf hrl hE
 obtain⟨i,d,k,u,p,b,l,tt,m,x9,x10,x11⟩:=o
 dsimp only at hkw k1 k2 k3 k4 k5 hoff
 have HK1:=Lib.hid k1
 have HK2:=Lib.hid k2
 have HK3:=Lib.hid k3
 have HK4:=Lib.hid k4
 have HK5:=Lib.hid k5
 have HOFF:=Lib.hid hoff
 clear k1 k2 k3 k4 k5 hoff
 generalize hFF:formedO ⟨i,d,k,u,p,b,l,tt,m,x9,x10,x11⟩=FF at kF HOFF
 have HFF:=Lib.hid hFF
 unfold Opn.agg at kF HK1 HK2 HK3 HK4 HK5 ⊢
 dsimp only at kF HK1 HK2 HK3 HK4 HK5 ⊢
 have KF:=Lib.hid kF
 clear kF hFF
 obtain⟨RR,hRR⟩:∃ RR:Bool,RR=true↔RightT t:=by
  by_cases h:RightT t
  ·exact⟨true,⟨fun _=>h,fun _=>rfl⟩⟩
  ·exact⟨false,⟨(fun h2=>by cases h2),fun h2=>absurd h2 h⟩⟩
 have HRI:=Lib.hid hRR
 have HRR:=Lib.hid (fun(bb:Bool) (hbb:bb=true↔RightT ⟨t.roots,t.brs⟩)=>show bb=RR from by
  have:(bb=true↔RR=true):=hbb.trans hRR.symm
  cases bb<;>cases RR<;>simp_all)
 clear hRR
 have hs1:(w.alloc (.cells [.slice Ar t.roots.length cr,.slice Ab t.brs.length cb].toArray 43)).heap.size=w.heap.size+1:=size_allocF _ _
 have hs2:((w.alloc (.cells [.slice Ar t.roots.length cr,.slice Ab t.brs.length cb].toArray 43)).alloc (.cells [.int .i64 i,.int .i64 d,.int .i64 k,.int .i64 u,.int .i64 p,.int .i64 b,.int .i64 l,.string tt,.string m,.int .i64 x9,.int .i64 x10,.int .i64 x11].toArray 26)).heap.size=w.heap.size+1+1:=by rw[size_allocF,hs1]
 have hs3:(((w.alloc (.cells [.slice Ar t.roots.length cr,.slice Ab t.brs.length cb].toArray 43)).alloc (.cells [.int .i64 i,.int .i64 d,.int .i64 k,.int .i64 u,.int .i64 p,.int .i64 b,.int .i64 l,.string tt,.string m,.int .i64 x9,.int .i64 x10,.int .i64 x11].toArray 26)).alloc (.cells [.slice none 0 0,.slice none 0 0].toArray 43)).heap.size=w.heap.size+1+1+1:=by rw[size_allocF,hs2]
 have b0W:=new_cell (w:=w) (show Grew (w.alloc (.cells [.slice Ar t.roots.length cr,.slice Ab t.brs.length cb].toArray 43)) (((w.alloc (.cells [.slice Ar t.roots.length cr,.slice Ab t.brs.length cb].toArray 43)).alloc (.cells [.int .i64 i,.int .i64 d,.int .i64 k,.int .i64 u,.int .i64 p,.int .i64 b,.int .i64 l,.string tt,.string m,.int .i64 x9,.int .i64 x10,.int .i64 x11].toArray 26)).alloc (.cells [.slice none 0 0,.slice none 0 0].toArray 43)) from((Grew.refl _).alloc _).alloc _) 0 _ rfl
 have b1W:=new_cell (w:=w) (show Grew (w.alloc (.cells [.slice Ar t.roots.length cr,.slice Ab t.brs.length cb].toArray 43)) (((w.alloc (.cells [.slice Ar t.roots.length cr,.slice Ab t.brs.length cb].toArray 43)).alloc (.cells [.int .i64 i,.int .i64 d,.int .i64 k,.int .i64 u,.int .i64 p,.int .i64 b,.int .i64 l,.string tt,.string m,.int .i64 x9,.int .i64 x10,.int .i64 x11].toArray 26)).alloc (.cells [.slice none 0 0,.slice none 0 0].toArray 43)) from((Grew.refl _).alloc _).alloc _) 1 _ rfl
 obtain⟨a0W,a1W,a2W,a3W,a4W,a5W,a6W,a7W,a8W,a9W,a10W,a11W⟩:=opn_all (w:=(w.alloc (.cells [.slice Ar t.roots.length cr,.slice Ab t.brs.length cb].toArray 43))) (t:=26) (⟨i,d,k,u,p,b,l,tt,m,x9,x10,x11⟩:Opn) (show Grew ((w.alloc (.cells [.slice Ar t.roots.length cr,.slice Ab t.brs.length cb].toArray 43)).alloc (.cells [.int .i64 i,.int .i64 d,.int .i64 k,.int .i64 u,.int .i64 p,.int .i64 b,.int .i64 l,.string tt,.string m,.int .i64 x9,.int .i64 x10,.int .i64 x11].toArray 26)) (((w.alloc (.cells [.slice Ar t.roots.length cr,.slice Ab t.brs.length cb].toArray 43)).alloc (.cells [.int .i64 i,.int .i64 d,.int .i64 k,.int .i64 u,.int .i64 p,.int .i64 b,.int .i64 l,.string tt,.string m,.int .i64 x9,.int .i64 x10,.int .i64 x11].toArray 26)).alloc (.cells [.slice none 0 0,.slice none 0 0].toArray 43)) from(Grew.refl _).alloc _)
 dsimp only at a0W a1W a2W a3W a4W a5W a6W a7W a8W a9W a10W a11W
 rw[hs1] at a0W a1W a2W a3W a4W a5W a6W a7W a8W a9W a10W a11W
 have r0W:=new_cell (w:=((w.alloc (.cells [.slice Ar t.roots.length cr,.slice Ab t.brs.length cb].toArray 43)).alloc (.cells [.int .i64 i,.int .i64 d,.int .i64 k,.int .i64 u,.int .i64 p,.int .i64 b,.int .i64 l,.string tt,.string m,.int .i64 x9,.int .i64 x10,.int .i64 x11].toArray 26))) (Grew.refl (((w.alloc (.cells [.slice Ar t.roots.length cr,.slice Ab t.brs.length cb].toArray 43)).alloc (.cells [.int .i64 i,.int .i64 d,.int .i64 k,.int .i64 u,.int .i64 p,.int .i64 b,.int .i64 l,.string tt,.string m,.int .i64 x9,.int .i64 x10,.int .i64 x11].toArray 26)).alloc (.cells [.slice none 0 0,.slice none 0 0].toArray 43))) 0 _ rfl
 have r1W:=new_cell (w:=((w.alloc (.cells [.slice Ar t.roots.length cr,.slice Ab t.brs.length cb].toArray 43)).alloc (.cells [.int .i64 i,.int .i64 d,.int .i64 k,.int .i64 u,.int .i64 p,.int .i64 b,.int .i64 l,.string tt,.string m,.int .i64 x9,.int .i64 x10,.int .i64 x11].toArray 26))) (Grew.refl (((w.alloc (.cells [.slice Ar t.roots.length cr,.slice Ab t.brs.length cb].toArray 43)).alloc (.cells [.int .i64 i,.int .i64 d,.int .i64 k,.int .i64 u,.int .i64 p,.int .i64 b,.int .i64 l,.string tt,.string m,.int .i64 x9,.int .i64 x10,.int .i64 x11].toArray 26)).alloc (.cells [.slice none 0 0,.slice none 0 0].toArray 43))) 1 _ rfl
 have z0W:=new_frz (w:=((w.alloc (.cells [.slice Ar t.roots.length cr,.slice Ab t.brs.length cb].toArray 43)).alloc (.cells [.int .i64 i,.int .i64 d,.int .i64 k,.int .i64 u,.int .i64 p,.int .i64 b,.int .i64 l,.string tt,.string m,.int .i64 x9,.int .i64 x10,.int .i64 x11].toArray 26))) (Grew.refl (((w.alloc (.cells [.slice Ar t.roots.length cr,.slice Ab t.brs.length cb].toArray 43)).alloc (.cells [.int .i64 i,.int .i64 d,.int .i64 k,.int .i64 u,.int .i64 p,.int .i64 b,.int .i64 l,.string tt,.string m,.int .i64 x9,.int .i64 x10,.int .i64 x11].toArray 26)).alloc (.cells [.slice none 0 0,.slice none 0 0].toArray 43))) 0
 have z1W:=new_frz (w:=((w.alloc (.cells [.slice Ar t.roots.length cr,.slice Ab t.brs.length cb].toArray 43)).alloc (.cells [.int .i64 i,.int .i64 d,.int .i64 k,.int .i64 u,.int .i64 p,.int .i64 b,.int .i64 l,.string tt,.string m,.int .i64 x9,.int .i64 x10,.int .i64 x11].toArray 26))) (Grew.refl (((w.alloc (.cells [.slice Ar t.roots.length cr,.slice Ab t.brs.length cb].toArray 43)).alloc (.cells [.int .i64 i,.int .i64 d,.int .i64 k,.int .i64 u,.int .i64 p,.int .i64 b,.int .i64 l,.string tt,.string m,.int .i64 x9,.int .i64 x10,.int .i64 x11].toArray 26)).alloc (.cells [.slice none 0 0,.slice none 0 0].toArray 43))) 1
 have HPW:=Lib.hid (show(((w.alloc (.cells [.slice Ar t.roots.length cr,.slice Ab t.brs.length cb].toArray 43)).alloc (.cells [.int .i64 i,.int .i64 d,.int .i64 k,.int .i64 u,.int .i64 p,.int .i64 b,.int .i64 l,.string tt,.string m,.int .i64 x9,.int .i64 x10,.int .i64 x11].toArray 26)).alloc (.cells [.slice none 0 0,.slice none 0 0].toArray 43)).heap[((w.alloc (.cells [.slice Ar t.roots.length cr,.slice Ab t.brs.length cb].toArray 43)).alloc (.cells [.int .i64 i,.int .i64 d,.int .i64 k,.int .i64 u,.int .i64 p,.int .i64 b,.int .i64 l,.string tt,.string m,.int .i64 x9,.int .i64 x10,.int .i64 x11].toArray 26)).heap.size]? = some (.cells [.slice none 0 0,.slice none 0 0].toArray 43 (0,0)) from heap_allocE rfl)
 rw[hs2] at r0W r1W z0W z1W HPW
 have GW:=Lib.hid (show Grew w (((w.alloc (.cells [.slice Ar t.roots.length cr,.slice Ab t.brs.length cb].toArray 43)).alloc (.cells [.int .i64 i,.int .i64 d,.int .i64 k,.int .i64 u,.int .i64 p,.int .i64 b,.int .i64 l,.string tt,.string m,.int .i64 x9,.int .i64 x10,.int .i64 x11].toArray 26)).alloc (.cells [.slice none 0 0,.slice none 0 0].toArray 43)) from(((Grew.refl w).alloc _).alloc _).alloc _)
 clear hs1 hs2
 by_cases h15:¬ (k=1∨k=2∨k=3∨k=4∨k=5)
 ·have hno:=kinds_no (k:=k) (fun h=>h15 (.inl h)) (fun h=>h15 (.inr (.inl h))) (fun h=>h15 (.inr (.inr (.inl h)))) (fun h=>h15 (.inr (.inr (.inr (.inl h))))) (fun h=>h15 (.inr (.inr (.inr (.inr h)))))
  obtain⟨rfl,rfl⟩:RT=⟨[],[]⟩∧n=1:=by
   have h:RT=(⟨[],[]⟩:Tr)∧n=1:=by
    have:=HOFF.out (by
     by_cases h6:k=6
     ·exact .inr (.inr h6)
     ·refine .inr (.inl ?_)
      rw[← HFF.out]
      unfold formedO kindF
      dsimp only
      simp only [not_or] at h15
      rw[if_neg h15.1,if_neg h15.2.1,if_neg h15.2.2.1,if_neg h15.2.2.2.1,if_neg (by rintro (h|h);exact h15.2.2.2.2 h;exact h6 h)]
      simp)
    simpa using this
   exact h
  go_enter Tryz.func67,Tryz.ntmps67
  go_wp2_with fail
  generalize (((w.alloc (.cells [.slice Ar t.roots.length cr,.slice Ab t.brs.length cb].toArray 43)).alloc (.cells [.int .i64 i,.int .i64 d,.int .i64 k,.int .i64 u,.int .i64 p,.int .i64 b,.int .i64 l,.string tt,.string m,.int .i64 x9,.int .i64 x10,.int .i64 x11].toArray 26)).alloc (.cells [.slice none 0 0,.slice none 0 0].toArray 43))=W3 at b0W b1W a0W a1W a2W a3W a4W a5W a6W a7W a8W a9W a10W a11W r0W r1W z0W z1W HPW GW hs3 ⊢
  obtain⟨V1,V2,V3,V4,V5,e1,e2,e3,e4,e5,hown,hgV⟩:=kinds_made W3
  obtain⟨v,el,ps,hfn⟩:=kinds_look hown hkw
  rw[hs3] at e1 e2 e3 e4 e5 el
  have GV:=Lib.hid (GW.out.trans hgV)
  have b0V:=keep_cell hgV b0W
  have b1V:=keep_cell hgV b1W
  have a0V:=keep_cell hgV a0W
  have a1V:=keep_cell hgV a1W
  have a2V:=keep_cell hgV a2W
  have a3V:=keep_cell hgV a3W
  have a4V:=keep_cell hgV a4W
  have a5V:=keep_cell hgV a5W
  have a6V:=keep_cell hgV a6W
  have a7V:=keep_cell hgV a7W
  have a8V:=keep_cell hgV a8W
  have a9V:=keep_cell hgV a9W
  have a10V:=keep_cell hgV a10W
  have a11V:=keep_cell hgV a11W
  have r0V:=keep_cell hgV r0W
  have r1V:=keep_cell hgV r1W
  have z0V:=(Grew.frozen hgV (p:=_) (World.block_lt_of_cell? _ _ r0W)).trans z0W
  have z1V:=(Grew.frozen hgV (p:=_) (World.block_lt_of_cell? _ _ r1W)).trans z1W
  have HPV:=Lib.hid (heap_grew hgV HPW.out)
  clear b0W b1W a0W a1W a2W a3W a4W a5W a6W a7W a8W a9W a10W a11W r0W r1W z0W z1W HPW GW hown
  rw[run_makeMap]
  rw[hno] at el
  go_wp2_with fail
  obtain⟨q0f,q1f⟩:=res_cells (v0:=(.slice none 0 0)) (v1:=(.slice none 0 0)) r0V r1V
  refine bodyPost_ret (v:=.tuple #[.agg #[(.slice none 0 0),(.slice none 0 0)],.int .i64 1]) (by simp[results,Tryz.results67,go_sem,q0f,q1f]) rfl ?_
  exact RetTr.none (by repeat (first|exact GV.out|refine Grew.setCell ?_ (by show w.heap.size≤w.heap.size+1+1;omega) _))
 have hyes:Maps.has kindsD (.int .i64 k)=true:=by
  rcases Classical.not_not.1 h15 with rfl|rfl|rfl|rfl|rfl
  ·exact kinds_1.1
  ·exact kinds_2.1
  ·exact kinds_3.1
  ·exact kinds_4.1
  ·exact kinds_5.1
 cases FF with
 | false =>
  obtain⟨rfl,rfl⟩:RT=⟨[],[]⟩∧n=1:=by simpa using HOFF.out (.inr (.inl rfl))
  go_enter Tryz.func67,Tryz.ntmps67
  go_wp2_with fail
  generalize (((w.alloc (.cells [.slice Ar t.roots.length cr,.slice Ab t.brs.length cb].toArray 43)).alloc (.cells [.int .i64 i,.int .i64 d,.int .i64 k,.int .i64 u,.int .i64 p,.int .i64 b,.int .i64 l,.string tt,.string m,.int .i64 x9,.int .i64 x10,.int .i64 x11].toArray 26)).alloc (.cells [.slice none 0 0,.slice none 0 0].toArray 43))=W3 at b0W b1W a0W a1W a2W a3W a4W a5W a6W a7W a8W a9W a10W a11W r0W r1W z0W z1W HPW GW hs3 ⊢
  obtain⟨V1,V2,V3,V4,V5,e1,e2,e3,e4,e5,hown,hgV⟩:=kinds_made W3
  obtain⟨v,el,ps,hfn⟩:=kinds_look hown hkw
  rw[hs3] at e1 e2 e3 e4 e5 el
  have GV:=Lib.hid (GW.out.trans hgV)
  have b0V:=keep_cell hgV b0W
  have b1V:=keep_cell hgV b1W
  have a0V:=keep_cell hgV a0W
  have a1V:=keep_cell hgV a1W
  have a2V:=keep_cell hgV a2W
  have a3V:=keep_cell hgV a3W
  have a4V:=keep_cell hgV a4W
  have a5V:=keep_cell hgV a5W
  have a6V:=keep_cell hgV a6W
  have a7V:=keep_cell hgV a7W
  have a8V:=keep_cell hgV a8W
  have a9V:=keep_cell hgV a9W
  have a10V:=keep_cell hgV a10W
  have a11V:=keep_cell hgV a11W
  have r0V:=keep_cell hgV r0W
  have r1V:=keep_cell hgV r1W
  have z0V:=(Grew.frozen hgV (p:=_) (World.block_lt_of_cell? _ _ r0W)).trans z0W
  have z1V:=(Grew.frozen hgV (p:=_) (World.block_lt_of_cell? _ _ r1W)).trans z1W
  have HPV:=Lib.hid (heap_grew hgV HPW.out)
  clear b0W b1W a0W a1W a2W a3W a4W a5W a6W a7W a8W a9W a10W a11W r0W r1W z0W z1W HPW GW hown
  rw[run_makeMap]
  rw[hyes] at el
  go_wp2_with (go_at_call 97;refine(KF.out _ GV.out).mono ?_;rintro e w1 ⟨rfl,g1⟩;have G1:=Lib.hid (GV.out.trans g1);have b01:=keep_cell g1 b0V;have b11:=keep_cell g1 b1V;have a01:=keep_cell g1 a0V;have a11:=keep_cell g1 a1V;have a21:=keep_cell g1 a2V;have a31:=keep_cell g1 a3V;have a41:=keep_cell g1 a4V;have a51:=keep_cell g1 a5V;have a61:=keep_cell g1 a6V;have a71:=keep_cell g1 a7V;have a81:=keep_cell g1 a8V;have a91:=keep_cell g1 a9V;have a101:=keep_cell g1 a10V;have a111:=keep_cell g1 a11V;have r01:=keep_cell g1 r0V;have r11:=keep_cell g1 r1V;have z01:=(Grew.frozen g1 (p:=_) (World.block_lt_of_cell? _ _ r0V)).trans z0V;have z11:=(Grew.frozen g1 (p:=_) (World.block_lt_of_cell? _ _ r1V)).trans z1V;clear g1)
  obtain⟨q0f,q1f⟩:=res_cells (v0:=(.slice none 0 0)) (v1:=(.slice none 0 0)) r01 r11
  refine bodyPost_ret (v:=.tuple #[.agg #[(.slice none 0 0),(.slice none 0 0)],.int .i64 1]) (by simp[results,Tryz.results67,go_sem,q0f,q1f]) rfl ?_
  exact RetTr.none (by repeat (first|exact G1.out|refine Grew.setCell ?_ (by show w.heap.size≤w.heap.size+1+1;omega) _))
 | true =>
 cases RR with
 | false =>
  obtain⟨rfl,rfl⟩:RT=⟨[],[]⟩∧n=1:=by simpa using HOFF.out (.inl fun h=>by have:=HRI.out.2 h;cases this)
  go_enter Tryz.func67,Tryz.ntmps67
  go_wp2_with fail
  generalize (((w.alloc (.cells [.slice Ar t.roots.length cr,.slice Ab t.brs.length cb].toArray 43)).alloc (.cells [.int .i64 i,.int .i64 d,.int .i64 k,.int .i64 u,.int .i64 p,.int .i64 b,.int .i64 l,.string tt,.string m,.int .i64 x9,.int .i64 x10,.int .i64 x11].toArray 26)).alloc (.cells [.slice none 0 0,.slice none 0 0].toArray 43))=W3 at b0W b1W a0W a1W a2W a3W a4W a5W a6W a7W a8W a9W a10W a11W r0W r1W z0W z1W HPW GW hs3 ⊢
  obtain⟨V1,V2,V3,V4,V5,e1,e2,e3,e4,e5,hown,hgV⟩:=kinds_made W3
  obtain⟨v,el,ps,hfn⟩:=kinds_look hown hkw
  rw[hs3] at e1 e2 e3 e4 e5 el
  have GV:=Lib.hid (GW.out.trans hgV)
  have b0V:=keep_cell hgV b0W
  have b1V:=keep_cell hgV b1W
  have a0V:=keep_cell hgV a0W
  have a1V:=keep_cell hgV a1W
  have a2V:=keep_cell hgV a2W
  have a3V:=keep_cell hgV a3W
  have a4V:=keep_cell hgV a4W
  have a5V:=keep_cell hgV a5W
  have a6V:=keep_cell hgV a6W
  have a7V:=keep_cell hgV a7W
  have a8V:=keep_cell hgV a8W
  have a9V:=keep_cell hgV a9W
  have a10V:=keep_cell hgV a10W
  have a11V:=keep_cell hgV a11W
  have r0V:=keep_cell hgV r0W
  have r1V:=keep_cell hgV r1W
  have z0V:=(Grew.frozen hgV (p:=_) (World.block_lt_of_cell? _ _ r0W)).trans z0W
  have z1V:=(Grew.frozen hgV (p:=_) (World.block_lt_of_cell? _ _ r1W)).trans z1W
  have HPV:=Lib.hid (heap_grew hgV HPW.out)
  clear b0W b1W a0W a1W a2W a3W a4W a5W a6W a7W a8W a9W a10W a11W r0W r1W z0W z1W HPW GW hown
  rw[run_makeMap]
  rw[hyes] at el
  go_wp2_with (first|(go_at_call 97;refine(KF.out _ GV.out).mono ?_;rintro e w1 ⟨rfl,g1⟩;have G1:=Lib.hid (GV.out.trans g1);have b01:=keep_cell g1 b0V;have b11:=keep_cell g1 b1V;have a01:=keep_cell g1 a0V;have a11:=keep_cell g1 a1V;have a21:=keep_cell g1 a2V;have a31:=keep_cell g1 a3V;have a41:=keep_cell g1 a4V;have a51:=keep_cell g1 a5V;have a61:=keep_cell g1 a6V;have a71:=keep_cell g1 a7V;have a81:=keep_cell g1 a8V;have a91:=keep_cell g1 a9V;have a101:=keep_cell g1 a10V;have a111:=keep_cell g1 a11V;have r01:=keep_cell g1 r0V;have r11:=keep_cell g1 r1V;have z01:=(Grew.frozen g1 (p:=_) (World.block_lt_of_cell? _ _ r0V)).trans z0V;have z11:=(Grew.frozen g1 (p:=_) (World.block_lt_of_cell? _ _ r1V)).trans z1V;clear g1)|(go_at_call 98;refine(KR.out _ G1.out).mono ?_;rintro e w2 ⟨bb,rfl,hbb,g2⟩;have hq:=HRR.out bb hbb;subst hq;have G2:=Lib.hid (G1.out.trans g2);have b02:=keep_cell g2 b01;have b12:=keep_cell g2 b11;have a02:=keep_cell g2 a01;have a12:=keep_cell g2 a11;have a22:=keep_cell g2 a21;have a32:=keep_cell g2 a31;have a42:=keep_cell g2 a41;have a52:=keep_cell g2 a51;have a62:=keep_cell g2 a61;have a72:=keep_cell g2 a71;have a82:=keep_cell g2 a81;have a92:=keep_cell g2 a91;have a102:=keep_cell g2 a101;have a112:=keep_cell g2 a111;have r02:=keep_cell g2 r01;have r12:=keep_cell g2 r11;have z02:=(Grew.frozen g2 (p:=_) (World.block_lt_of_cell? _ _ r01)).trans z01;have z12:=(Grew.frozen g2 (p:=_) (World.block_lt_of_cell? _ _ r11)).trans z11;clear g2 hbb))
  obtain⟨q0f,q1f⟩:=res_cells (v0:=(.slice none 0 0)) (v1:=(.slice none 0 0)) r02 r12
  refine bodyPost_ret (v:=.tuple #[.agg #[(.slice none 0 0),(.slice none 0 0)],.int .i64 1]) (by simp[results,Tryz.results67,go_sem,q0f,q1f]) rfl ?_
  exact RetTr.none (by repeat (first|exact G2.out|refine Grew.setCell ?_ (by show w.heap.size≤w.heap.size+1+1;omega) _))
 | true =>
 have HRT:=Lib.hid (HRI.out.1 rfl)
 rcases Classical.not_not.1 h15 with rfl|rfl|rfl|rfl|rfl
 ·have KD:=Lib.hid (fun(w0:World) (E:Nat) (bv:Value) (w:World) (h:EdB w0.heap.size E bv t w) (hG:Grew w0 w) (hEnv:Env w0)=>HK1.out w0 E bv w h hG hEnv HRT.out HFF.out rfl)
  clear HK1 HK2 HK3 HK4 HK5 HOFF HRI HRT HFF
  by_cases hn:n=0
  ·subst hn
   go_enter Tryz.func67,Tryz.ntmps67
   go_wp2_with fail
   generalize (((w.alloc (.cells [.slice Ar t.roots.length cr,.slice Ab t.brs.length cb].toArray 43)).alloc (.cells [.int .i64 i,.int .i64 d,.int .i64 1,.int .i64 u,.int .i64 p,.int .i64 b,.int .i64 l,.string tt,.string m,.int .i64 x9,.int .i64 x10,.int .i64 x11].toArray 26)).alloc (.cells [.slice none 0 0,.slice none 0 0].toArray 43))=W3 at b0W b1W a0W a1W a2W a3W a4W a5W a6W a7W a8W a9W a10W a11W r0W r1W z0W z1W HPW GW hs3 ⊢
   obtain⟨V1,V2,V3,V4,V5,e1,e2,e3,e4,e5,hown,hgV⟩:=kinds_made W3
   obtain⟨v,el,ps,hfn⟩:=kinds_look hown hkw
   rw[hs3] at e1 e2 e3 e4 e5 el
   have GV:=Lib.hid (GW.out.trans hgV)
   have b0V:=keep_cell hgV b0W
   have b1V:=keep_cell hgV b1W
   have a0V:=keep_cell hgV a0W
   have a1V:=keep_cell hgV a1W
   have a2V:=keep_cell hgV a2W
   have a3V:=keep_cell hgV a3W
   have a4V:=keep_cell hgV a4W
   have a5V:=keep_cell hgV a5W
   have a6V:=keep_cell hgV a6W
   have a7V:=keep_cell hgV a7W
   have a8V:=keep_cell hgV a8W
   have a9V:=keep_cell hgV a9W
   have a10V:=keep_cell hgV a10W
   have a11V:=keep_cell hgV a11W
   have r0V:=keep_cell hgV r0W
   have r1V:=keep_cell hgV r1W
   have z0V:=(Grew.frozen hgV (p:=_) (World.block_lt_of_cell? _ _ r0W)).trans z0W
   have z1V:=(Grew.frozen hgV (p:=_) (World.block_lt_of_cell? _ _ r1W)).trans z1W
   have HPV:=Lib.hid (heap_grew hgV HPW.out)
   clear b0W b1W a0W a1W a2W a3W a4W a5W a6W a7W a8W a9W a10W a11W r0W r1W z0W z1W HPW GW hown
   rw[run_makeMap]
   rw[hyes] at el
   rw[kinds_1.2] at hfn
   obtain rfl:=fnElem_is hfn
   clear hfn
   go_wp2_with (first|(go_at_call 97;refine(KF.out _ GV.out).mono ?_;rintro e w1 ⟨rfl,g1⟩;have G1:=Lib.hid (GV.out.trans g1);have b01:=keep_cell g1 b0V;have b11:=keep_cell g1 b1V;have a01:=keep_cell g1 a0V;have a11:=keep_cell g1 a1V;have a21:=keep_cell g1 a2V;have a31:=keep_cell g1 a3V;have a41:=keep_cell g1 a4V;have a51:=keep_cell g1 a5V;have a61:=keep_cell g1 a6V;have a71:=keep_cell g1 a7V;have a81:=keep_cell g1 a8V;have a91:=keep_cell g1 a9V;have a101:=keep_cell g1 a10V;have a111:=keep_cell g1 a11V;have r01:=keep_cell g1 r0V;have r11:=keep_cell g1 r1V;have z01:=(Grew.frozen g1 (p:=_) (World.block_lt_of_cell? _ _ r0V)).trans z0V;have z11:=(Grew.frozen g1 (p:=_) (World.block_lt_of_cell? _ _ r1V)).trans z1V;have HPV1:=Lib.hid (heap_grew g1 HPV.out);clear g1)|(go_at_call 98;refine(KR.out _ G1.out).mono ?_;rintro e w2 ⟨bb,rfl,hbb,g2⟩;have hq:=HRR.out bb hbb;subst hq;have G2:=Lib.hid (G1.out.trans g2);have b02:=keep_cell g2 b01;have b12:=keep_cell g2 b11;have a02:=keep_cell g2 a01;have a12:=keep_cell g2 a11;have a22:=keep_cell g2 a21;have a32:=keep_cell g2 a31;have a42:=keep_cell g2 a41;have a52:=keep_cell g2 a51;have a62:=keep_cell g2 a61;have a72:=keep_cell g2 a71;have a82:=keep_cell g2 a81;have a92:=keep_cell g2 a91;have a102:=keep_cell g2 a101;have a112:=keep_cell g2 a111;have r02:=keep_cell g2 r01;have r12:=keep_cell g2 r11;have z02:=(Grew.frozen g2 (p:=_) (World.block_lt_of_cell? _ _ r01)).trans z01;have z12:=(Grew.frozen g2 (p:=_) (World.block_lt_of_cell? _ _ r11)).trans z11;have G12:=Lib.hid g2;clear g2 hbb)|(go_at_call 99;refine(KE.out _ G2.out).mono ?_;rintro e w3 ⟨E,bv3,rfl,hEd,g3⟩;have HEd:=Lib.hid hEd;have HG3:=Lib.hid g3;have G3:=Lib.hid (G2.out.trans g3);have b03:=keep_cell g3 b02;have b13:=keep_cell g3 b12;have a03:=keep_cell g3 a02;have a13:=keep_cell g3 a12;have a23:=keep_cell g3 a22;have a33:=keep_cell g3 a32;have a43:=keep_cell g3 a42;have a53:=keep_cell g3 a52;have a63:=keep_cell g3 a62;have a73:=keep_cell g3 a72;have a83:=keep_cell g3 a82;have a93:=keep_cell g3 a92;have a103:=keep_cell g3 a102;have a113:=keep_cell g3 a112;have r03:=keep_cell g3 r02;have r13:=keep_cell g3 r12;have z03:=(Grew.frozen g3 (p:=_) (World.block_lt_of_cell? _ _ r02)).trans z02;have z13:=(Grew.frozen g3 (p:=_) (World.block_lt_of_cell? _ _ r12)).trans z12;clear g3 hEd)|((first|go_at_call 92|go_at_call 93|go_at_call 94|go_at_call 95|go_at_call 96);refine(KD.out _ _ _ _ HEd.out HG3.out (HE.out.mono G2.out)).mono ?_;rintro e w4 ⟨rfl,g24,hT⟩;have HT:=Lib.hid hT;have g4:=Lib.hid (show Grew w2 w4 from g24);have G4:=Lib.hid (G2.out.trans g24);have b04:=keep_cell g4.out b02;have b14:=keep_cell g4.out b12;have a04:=keep_cell g4.out a02;have a14:=keep_cell g4.out a12;have a24:=keep_cell g4.out a22;have a34:=keep_cell g4.out a32;have a44:=keep_cell g4.out a42;have a54:=keep_cell g4.out a52;have a64:=keep_cell g4.out a62;have a74:=keep_cell g4.out a72;have a84:=keep_cell g4.out a82;have a94:=keep_cell g4.out a92;have a104:=keep_cell g4.out a102;have a114:=keep_cell g4.out a112;have r04:=keep_cell g4.out r02;have r14:=keep_cell g4.out r12;have z04:=(Grew.frozen g4.out (p:=_) (World.block_lt_of_cell? _ _ r02)).trans z02;have z14:=(Grew.frozen g4.out (p:=_) (World.block_lt_of_cell? _ _ r12)).trans z12;obtain⟨bv5,rv5,cs5,hE5⟩:=hT rfl;obtain⟨q0,q1,-,-⟩:=hE5.cells;obtain⟨A5,c5,rfl⟩:=own_slice hE5.roots;obtain⟨A6,c6,rfl⟩:=own_slice hE5.brs;have HE5:=Lib.hid hE5;have HP4:=Lib.hid (heap_grew g4.out (heap_grew G12.out HPV1.out));clear g24 hT hE5))
   obtain⟨q0f,q1f⟩:=res_cells (v0:=(.slice A5 RT.roots.length c5)) (v1:=(.slice A6 RT.brs.length c6)) r04 r14
   refine bodyPost_ret (v:=.tuple #[.agg #[(.slice A5 RT.roots.length c5),(.slice A6 RT.brs.length c6)],.int .i64 0]) (by simp[results,Tryz.results67,go_sem,q0f,q1f]) rfl ?_
   exact apply_out HE5.out HP4.out (by omega) G4.out
  ·have hn2:(n != 0)=true:=by simpa using hn
   obtain rfl:=HERR.out hn
   go_enter Tryz.func67,Tryz.ntmps67
   go_wp2_with fail
   generalize (((w.alloc (.cells [.slice Ar t.roots.length cr,.slice Ab t.brs.length cb].toArray 43)).alloc (.cells [.int .i64 i,.int .i64 d,.int .i64 1,.int .i64 u,.int .i64 p,.int .i64 b,.int .i64 l,.string tt,.string m,.int .i64 x9,.int .i64 x10,.int .i64 x11].toArray 26)).alloc (.cells [.slice none 0 0,.slice none 0 0].toArray 43))=W3 at b0W b1W a0W a1W a2W a3W a4W a5W a6W a7W a8W a9W a10W a11W r0W r1W z0W z1W HPW GW hs3 ⊢
   obtain⟨V1,V2,V3,V4,V5,e1,e2,e3,e4,e5,hown,hgV⟩:=kinds_made W3
   obtain⟨v,el,ps,hfn⟩:=kinds_look hown hkw
   rw[hs3] at e1 e2 e3 e4 e5 el
   have GV:=Lib.hid (GW.out.trans hgV)
   have b0V:=keep_cell hgV b0W
   have b1V:=keep_cell hgV b1W
   have a0V:=keep_cell hgV a0W
   have a1V:=keep_cell hgV a1W
   have a2V:=keep_cell hgV a2W
   have a3V:=keep_cell hgV a3W
   have a4V:=keep_cell hgV a4W
   have a5V:=keep_cell hgV a5W
   have a6V:=keep_cell hgV a6W
   have a7V:=keep_cell hgV a7W
   have a8V:=keep_cell hgV a8W
   have a9V:=keep_cell hgV a9W
   have a10V:=keep_cell hgV a10W
   have a11V:=keep_cell hgV a11W
   have r0V:=keep_cell hgV r0W
   have r1V:=keep_cell hgV r1W
   have z0V:=(Grew.frozen hgV (p:=_) (World.block_lt_of_cell? _ _ r0W)).trans z0W
   have z1V:=(Grew.frozen hgV (p:=_) (World.block_lt_of_cell? _ _ r1W)).trans z1W
   have HPV:=Lib.hid (heap_grew hgV HPW.out)
   clear b0W b1W a0W a1W a2W a3W a4W a5W a6W a7W a8W a9W a10W a11W r0W r1W z0W z1W HPW GW hown
   rw[run_makeMap]
   rw[hyes] at el
   rw[kinds_1.2] at hfn
   obtain rfl:=fnElem_is hfn
   clear hfn
   go_wp2_with (first|(go_at_call 97;refine(KF.out _ GV.out).mono ?_;rintro e w1 ⟨rfl,g1⟩;have G1:=Lib.hid (GV.out.trans g1);have b01:=keep_cell g1 b0V;have b11:=keep_cell g1 b1V;have a01:=keep_cell g1 a0V;have a11:=keep_cell g1 a1V;have a21:=keep_cell g1 a2V;have a31:=keep_cell g1 a3V;have a41:=keep_cell g1 a4V;have a51:=keep_cell g1 a5V;have a61:=keep_cell g1 a6V;have a71:=keep_cell g1 a7V;have a81:=keep_cell g1 a8V;have a91:=keep_cell g1 a9V;have a101:=keep_cell g1 a10V;have a111:=keep_cell g1 a11V;have r01:=keep_cell g1 r0V;have r11:=keep_cell g1 r1V;have z01:=(Grew.frozen g1 (p:=_) (World.block_lt_of_cell? _ _ r0V)).trans z0V;have z11:=(Grew.frozen g1 (p:=_) (World.block_lt_of_cell? _ _ r1V)).trans z1V;clear g1)|(go_at_call 98;refine(KR.out _ G1.out).mono ?_;rintro e w2 ⟨bb,rfl,hbb,g2⟩;have hq:=HRR.out bb hbb;subst hq;have G2:=Lib.hid (G1.out.trans g2);have b02:=keep_cell g2 b01;have b12:=keep_cell g2 b11;have a02:=keep_cell g2 a01;have a12:=keep_cell g2 a11;have a22:=keep_cell g2 a21;have a32:=keep_cell g2 a31;have a42:=keep_cell g2 a41;have a52:=keep_cell g2 a51;have a62:=keep_cell g2 a61;have a72:=keep_cell g2 a71;have a82:=keep_cell g2 a81;have a92:=keep_cell g2 a91;have a102:=keep_cell g2 a101;have a112:=keep_cell g2 a111;have r02:=keep_cell g2 r01;have r12:=keep_cell g2 r11;have z02:=(Grew.frozen g2 (p:=_) (World.block_lt_of_cell? _ _ r01)).trans z01;have z12:=(Grew.frozen g2 (p:=_) (World.block_lt_of_cell? _ _ r11)).trans z11;clear g2 hbb)|(go_at_call 99;refine(KE.out _ G2.out).mono ?_;rintro e w3 ⟨E,bv3,rfl,hEd,g3⟩;have HEd:=Lib.hid hEd;have HG3:=Lib.hid g3;have G3:=Lib.hid (G2.out.trans g3);have b03:=keep_cell g3 b02;have b13:=keep_cell g3 b12;have a03:=keep_cell g3 a02;have a13:=keep_cell g3 a12;have a23:=keep_cell g3 a22;have a33:=keep_cell g3 a32;have a43:=keep_cell g3 a42;have a53:=keep_cell g3 a52;have a63:=keep_cell g3 a62;have a73:=keep_cell g3 a72;have a83:=keep_cell g3 a82;have a93:=keep_cell g3 a92;have a103:=keep_cell g3 a102;have a113:=keep_cell g3 a112;have r03:=keep_cell g3 r02;have r13:=keep_cell g3 r12;have z03:=(Grew.frozen g3 (p:=_) (World.block_lt_of_cell? _ _ r02)).trans z02;have z13:=(Grew.frozen g3 (p:=_) (World.block_lt_of_cell? _ _ r12)).trans z12;clear g3 hEd)|((first|go_at_call 92|go_at_call 93|go_at_call 94|go_at_call 95|go_at_call 96);refine(KD.out _ _ _ _ HEd.out HG3.out (HE.out.mono G2.out)).mono ?_;rintro e w4 ⟨rfl,g24,hT⟩;have HT:=Lib.hid hT;have g4:=Lib.hid (show Grew w2 w4 from g24);have G4:=Lib.hid (G2.out.trans g24);have b04:=keep_cell g4.out b02;have b14:=keep_cell g4.out b12;have a04:=keep_cell g4.out a02;have a14:=keep_cell g4.out a12;have a24:=keep_cell g4.out a22;have a34:=keep_cell g4.out a32;have a44:=keep_cell g4.out a42;have a54:=keep_cell g4.out a52;have a64:=keep_cell g4.out a62;have a74:=keep_cell g4.out a72;have a84:=keep_cell g4.out a82;have a94:=keep_cell g4.out a92;have a104:=keep_cell g4.out a102;have a114:=keep_cell g4.out a112;have r04:=keep_cell g4.out r02;have r14:=keep_cell g4.out r12;have z04:=(Grew.frozen g4.out (p:=_) (World.block_lt_of_cell? _ _ r02)).trans z02;have z14:=(Grew.frozen g4.out (p:=_) (World.block_lt_of_cell? _ _ r12)).trans z12;clear g24 hT))
   obtain⟨q0f,q1f⟩:=res_cells (v0:=(.slice none 0 0)) (v1:=(.slice none 0 0)) r04 r14
   refine bodyPost_ret (v:=.tuple #[.agg #[(.slice none 0 0),(.slice none 0 0)],.int .i64 n]) (by simp[results,Tryz.results67,go_sem,q0f,q1f]) rfl ?_
   exact RetTr.none (by repeat (first|exact G4.out|refine Grew.setCell ?_ (by show w.heap.size≤w.heap.size+1+1;omega) _))
 ·have KD:=Lib.hid (fun(w0:World) (E:Nat) (bv:Value) (w:World) (h:EdB w0.heap.size E bv t w) (hG:Grew w0 w) (hEnv:Env w0)=>HK2.out w0 E bv w h hG hEnv HRT.out HFF.out rfl)
  clear HK1 HK2 HK3 HK4 HK5 HOFF HRI HRT HFF
  by_cases hn:n=0
  ·subst hn
   go_enter Tryz.func67,Tryz.ntmps67
   go_wp2_with fail
   generalize (((w.alloc (.cells [.slice Ar t.roots.length cr,.slice Ab t.brs.length cb].toArray 43)).alloc (.cells [.int .i64 i,.int .i64 d,.int .i64 2,.int .i64 u,.int .i64 p,.int .i64 b,.int .i64 l,.string tt,.string m,.int .i64 x9,.int .i64 x10,.int .i64 x11].toArray 26)).alloc (.cells [.slice none 0 0,.slice none 0 0].toArray 43))=W3 at b0W b1W a0W a1W a2W a3W a4W a5W a6W a7W a8W a9W a10W a11W r0W r1W z0W z1W HPW GW hs3 ⊢
   obtain⟨V1,V2,V3,V4,V5,e1,e2,e3,e4,e5,hown,hgV⟩:=kinds_made W3
   obtain⟨v,el,ps,hfn⟩:=kinds_look hown hkw
   rw[hs3] at e1 e2 e3 e4 e5 el
   have GV:=Lib.hid (GW.out.trans hgV)
   have b0V:=keep_cell hgV b0W
   have b1V:=keep_cell hgV b1W
   have a0V:=keep_cell hgV a0W
   have a1V:=keep_cell hgV a1W
   have a2V:=keep_cell hgV a2W
   have a3V:=keep_cell hgV a3W
   have a4V:=keep_cell hgV a4W
   have a5V:=keep_cell hgV a5W
   have a6V:=keep_cell hgV a6W
   have a7V:=keep_cell hgV a7W
   have a8V:=keep_cell hgV a8W
   have a9V:=keep_cell hgV a9W
   have a10V:=keep_cell hgV a10W
   have a11V:=keep_cell hgV a11W
   have r0V:=keep_cell hgV r0W
   have r1V:=keep_cell hgV r1W
   have z0V:=(Grew.frozen hgV (p:=_) (World.block_lt_of_cell? _ _ r0W)).trans z0W
   have z1V:=(Grew.frozen hgV (p:=_) (World.block_lt_of_cell? _ _ r1W)).trans z1W
   have HPV:=Lib.hid (heap_grew hgV HPW.out)
   clear b0W b1W a0W a1W a2W a3W a4W a5W a6W a7W a8W a9W a10W a11W r0W r1W z0W z1W HPW GW hown
   rw[run_makeMap]
   rw[hyes] at el
   rw[kinds_2.2] at hfn
   obtain rfl:=fnElem_is hfn
   clear hfn
   go_wp2_with (first|(go_at_call 97;refine(KF.out _ GV.out).mono ?_;rintro e w1 ⟨rfl,g1⟩;have G1:=Lib.hid (GV.out.trans g1);have b01:=keep_cell g1 b0V;have b11:=keep_cell g1 b1V;have a01:=keep_cell g1 a0V;have a11:=keep_cell g1 a1V;have a21:=keep_cell g1 a2V;have a31:=keep_cell g1 a3V;have a41:=keep_cell g1 a4V;have a51:=keep_cell g1 a5V;have a61:=keep_cell g1 a6V;have a71:=keep_cell g1 a7V;have a81:=keep_cell g1 a8V;have a91:=keep_cell g1 a9V;have a101:=keep_cell g1 a10V;have a111:=keep_cell g1 a11V;have r01:=keep_cell g1 r0V;have r11:=keep_cell g1 r1V;have z01:=(Grew.frozen g1 (p:=_) (World.block_lt_of_cell? _ _ r0V)).trans z0V;have z11:=(Grew.frozen g1 (p:=_) (World.block_lt_of_cell? _ _ r1V)).trans z1V;have HPV1:=Lib.hid (heap_grew g1 HPV.out);clear g1)|(go_at_call 98;refine(KR.out _ G1.out).mono ?_;rintro e w2 ⟨bb,rfl,hbb,g2⟩;have hq:=HRR.out bb hbb;subst hq;have G2:=Lib.hid (G1.out.trans g2);have b02:=keep_cell g2 b01;have b12:=keep_cell g2 b11;have a02:=keep_cell g2 a01;have a12:=keep_cell g2 a11;have a22:=keep_cell g2 a21;have a32:=keep_cell g2 a31;have a42:=keep_cell g2 a41;have a52:=keep_cell g2 a51;have a62:=keep_cell g2 a61;have a72:=keep_cell g2 a71;have a82:=keep_cell g2 a81;have a92:=keep_cell g2 a91;have a102:=keep_cell g2 a101;have a112:=keep_cell g2 a111;have r02:=keep_cell g2 r01;have r12:=keep_cell g2 r11;have z02:=(Grew.frozen g2 (p:=_) (World.block_lt_of_cell? _ _ r01)).trans z01;have z12:=(Grew.frozen g2 (p:=_) (World.block_lt_of_cell? _ _ r11)).trans z11;have G12:=Lib.hid g2;clear g2 hbb)|(go_at_call 99;refine(KE.out _ G2.out).mono ?_;rintro e w3 ⟨E,bv3,rfl,hEd,g3⟩;have HEd:=Lib.hid hEd;have HG3:=Lib.hid g3;have G3:=Lib.hid (G2.out.trans g3);have b03:=keep_cell g3 b02;have b13:=keep_cell g3 b12;have a03:=keep_cell g3 a02;have a13:=keep_cell g3 a12;have a23:=keep_cell g3 a22;have a33:=keep_cell g3 a32;have a43:=keep_cell g3 a42;have a53:=keep_cell g3 a52;have a63:=keep_cell g3 a62;have a73:=keep_cell g3 a72;have a83:=keep_cell g3 a82;have a93:=keep_cell g3 a92;have a103:=keep_cell g3 a102;have a113:=keep_cell g3 a112;have r03:=keep_cell g3 r02;have r13:=keep_cell g3 r12;have z03:=(Grew.frozen g3 (p:=_) (World.block_lt_of_cell? _ _ r02)).trans z02;have z13:=(Grew.frozen g3 (p:=_) (World.block_lt_of_cell? _ _ r12)).trans z12;clear g3 hEd)|((first|go_at_call 92|go_at_call 93|go_at_call 94|go_at_call 95|go_at_call 96);refine(KD.out _ _ _ _ HEd.out HG3.out (HE.out.mono G2.out)).mono ?_;rintro e w4 ⟨rfl,g24,hT⟩;have HT:=Lib.hid hT;have g4:=Lib.hid (show Grew w2 w4 from g24);have G4:=Lib.hid (G2.out.trans g24);have b04:=keep_cell g4.out b02;have b14:=keep_cell g4.out b12;have a04:=keep_cell g4.out a02;have a14:=keep_cell g4.out a12;have a24:=keep_cell g4.out a22;have a34:=keep_cell g4.out a32;have a44:=keep_cell g4.out a42;have a54:=keep_cell g4.out a52;have a64:=keep_cell g4.out a62;have a74:=keep_cell g4.out a72;have a84:=keep_cell g4.out a82;have a94:=keep_cell g4.out a92;have a104:=keep_cell g4.out a102;have a114:=keep_cell g4.out a112;have r04:=keep_cell g4.out r02;have r14:=keep_cell g4.out r12;have z04:=(Grew.frozen g4.out (p:=_) (World.block_lt_of_cell? _ _ r02)).trans z02;have z14:=(Grew.frozen g4.out (p:=_) (World.block_lt_of_cell? _ _ r12)).trans z12;obtain⟨bv5,rv5,cs5,hE5⟩:=hT rfl;obtain⟨q0,q1,-,-⟩:=hE5.cells;obtain⟨A5,c5,rfl⟩:=own_slice hE5.roots;obtain⟨A6,c6,rfl⟩:=own_slice hE5.brs;have HE5:=Lib.hid hE5;have HP4:=Lib.hid (heap_grew g4.out (heap_grew G12.out HPV1.out));clear g24 hT hE5))
   obtain⟨q0f,q1f⟩:=res_cells (v0:=(.slice A5 RT.roots.length c5)) (v1:=(.slice A6 RT.brs.length c6)) r04 r14
   refine bodyPost_ret (v:=.tuple #[.agg #[(.slice A5 RT.roots.length c5),(.slice A6 RT.brs.length c6)],.int .i64 0]) (by simp[results,Tryz.results67,go_sem,q0f,q1f]) rfl ?_
   exact apply_out HE5.out HP4.out (by omega) G4.out
  ·have hn2:(n != 0)=true:=by simpa using hn
   obtain rfl:=HERR.out hn
   go_enter Tryz.func67,Tryz.ntmps67
   go_wp2_with fail
   generalize (((w.alloc (.cells [.slice Ar t.roots.length cr,.slice Ab t.brs.length cb].toArray 43)).alloc (.cells [.int .i64 i,.int .i64 d,.int .i64 2,.int .i64 u,.int .i64 p,.int .i64 b,.int .i64 l,.string tt,.string m,.int .i64 x9,.int .i64 x10,.int .i64 x11].toArray 26)).alloc (.cells [.slice none 0 0,.slice none 0 0].toArray 43))=W3 at b0W b1W a0W a1W a2W a3W a4W a5W a6W a7W a8W a9W a10W a11W r0W r1W z0W z1W HPW GW hs3 ⊢
   obtain⟨V1,V2,V3,V4,V5,e1,e2,e3,e4,e5,hown,hgV⟩:=kinds_made W3
   obtain⟨v,el,ps,hfn⟩:=kinds_look hown hkw
   rw[hs3] at e1 e2 e3 e4 e5 el
   have GV:=Lib.hid (GW.out.trans hgV)
   have b0V:=keep_cell hgV b0W
   have b1V:=keep_cell hgV b1W
   have a0V:=keep_cell hgV a0W
   have a1V:=keep_cell hgV a1W
   have a2V:=keep_cell hgV a2W
   have a3V:=keep_cell hgV a3W
   have a4V:=keep_cell hgV a4W
   have a5V:=keep_cell hgV a5W
   have a6V:=keep_cell hgV a6W
   have a7V:=keep_cell hgV a7W
   have a8V:=keep_cell hgV a8W
   have a9V:=keep_cell hgV a9W
   have a10V:=keep_cell hgV a10W
   have a11V:=keep_cell hgV a11W
   have r0V:=keep_cell hgV r0W
   have r1V:=keep_cell hgV r1W
   have z0V:=(Grew.frozen hgV (p:=_) (World.block_lt_of_cell? _ _ r0W)).trans z0W
   have z1V:=(Grew.frozen hgV (p:=_) (World.block_lt_of_cell? _ _ r1W)).trans z1W
   have HPV:=Lib.hid (heap_grew hgV HPW.out)
   clear b0W b1W a0W a1W a2W a3W a4W a5W a6W a7W a8W a9W a10W a11W r0W r1W z0W z1W HPW GW hown
   rw[run_makeMap]
   rw[hyes] at el
   rw[kinds_2.2] at hfn
   obtain rfl:=fnElem_is hfn
   clear hfn
   go_wp2_with (first|(go_at_call 97;refine(KF.out _ GV.out).mono ?_;rintro e w1 ⟨rfl,g1⟩;have G1:=Lib.hid (GV.out.trans g1);have b01:=keep_cell g1 b0V;have b11:=keep_cell g1 b1V;have a01:=keep_cell g1 a0V;have a11:=keep_cell g1 a1V;have a21:=keep_cell g1 a2V;have a31:=keep_cell g1 a3V;have a41:=keep_cell g1 a4V;have a51:=keep_cell g1 a5V;have a61:=keep_cell g1 a6V;have a71:=keep_cell g1 a7V;have a81:=keep_cell g1 a8V;have a91:=keep_cell g1 a9V;have a101:=keep_cell g1 a10V;have a111:=keep_cell g1 a11V;have r01:=keep_cell g1 r0V;have r11:=keep_cell g1 r1V;have z01:=(Grew.frozen g1 (p:=_) (World.block_lt_of_cell? _ _ r0V)).trans z0V;have z11:=(Grew.frozen g1 (p:=_) (World.block_lt_of_cell? _ _ r1V)).trans z1V;clear g1)|(go_at_call 98;refine(KR.out _ G1.out).mono ?_;rintro e w2 ⟨bb,rfl,hbb,g2⟩;have hq:=HRR.out bb hbb;subst hq;have G2:=Lib.hid (G1.out.trans g2);have b02:=keep_cell g2 b01;have b12:=keep_cell g2 b11;have a02:=keep_cell g2 a01;have a12:=keep_cell g2 a11;have a22:=keep_cell g2 a21;have a32:=keep_cell g2 a31;have a42:=keep_cell g2 a41;have a52:=keep_cell g2 a51;have a62:=keep_cell g2 a61;have a72:=keep_cell g2 a71;have a82:=keep_cell g2 a81;have a92:=keep_cell g2 a91;have a102:=keep_cell g2 a101;have a112:=keep_cell g2 a111;have r02:=keep_cell g2 r01;have r12:=keep_cell g2 r11;have z02:=(Grew.frozen g2 (p:=_) (World.block_lt_of_cell? _ _ r01)).trans z01;have z12:=(Grew.frozen g2 (p:=_) (World.block_lt_of_cell? _ _ r11)).trans z11;clear g2 hbb)|(go_at_call 99;refine(KE.out _ G2.out).mono ?_;rintro e w3 ⟨E,bv3,rfl,hEd,g3⟩;have HEd:=Lib.hid hEd;have HG3:=Lib.hid g3;have G3:=Lib.hid (G2.out.trans g3);have b03:=keep_cell g3 b02;have b13:=keep_cell g3 b12;have a03:=keep_cell g3 a02;have a13:=keep_cell g3 a12;have a23:=keep_cell g3 a22;have a33:=keep_cell g3 a32;have a43:=keep_cell g3 a42;have a53:=keep_cell g3 a52;have a63:=keep_cell g3 a62;have a73:=keep_cell g3 a72;have a83:=keep_cell g3 a82;have a93:=keep_cell g3 a92;have a103:=keep_cell g3 a102;have a113:=keep_cell g3 a112;have r03:=keep_cell g3 r02;have r13:=keep_cell g3 r12;have z03:=(Grew.frozen g3 (p:=_) (World.block_lt_of_cell? _ _ r02)).trans z02;have z13:=(Grew.frozen g3 (p:=_) (World.block_lt_of_cell? _ _ r12)).trans z12;clear g3 hEd)|((first|go_at_call 92|go_at_call 93|go_at_call 94|go_at_call 95|go_at_call 96);refine(KD.out _ _ _ _ HEd.out HG3.out (HE.out.mono G2.out)).mono ?_;rintro e w4 ⟨rfl,g24,hT⟩;have HT:=Lib.hid hT;have g4:=Lib.hid (show Grew w2 w4 from g24);have G4:=Lib.hid (G2.out.trans g24);have b04:=keep_cell g4.out b02;have b14:=keep_cell g4.out b12;have a04:=keep_cell g4.out a02;have a14:=keep_cell g4.out a12;have a24:=keep_cell g4.out a22;have a34:=keep_cell g4.out a32;have a44:=keep_cell g4.out a42;have a54:=keep_cell g4.out a52;have a64:=keep_cell g4.out a62;have a74:=keep_cell g4.out a72;have a84:=keep_cell g4.out a82;have a94:=keep_cell g4.out a92;have a104:=keep_cell g4.out a102;have a114:=keep_cell g4.out a112;have r04:=keep_cell g4.out r02;have r14:=keep_cell g4.out r12;have z04:=(Grew.frozen g4.out (p:=_) (World.block_lt_of_cell? _ _ r02)).trans z02;have z14:=(Grew.frozen g4.out (p:=_) (World.block_lt_of_cell? _ _ r12)).trans z12;clear g24 hT))
   obtain⟨q0f,q1f⟩:=res_cells (v0:=(.slice none 0 0)) (v1:=(.slice none 0 0)) r04 r14
   refine bodyPost_ret (v:=.tuple #[.agg #[(.slice none 0 0),(.slice none 0 0)],.int .i64 n]) (by simp[results,Tryz.results67,go_sem,q0f,q1f]) rfl ?_
   exact RetTr.none (by repeat (first|exact G4.out|refine Grew.setCell ?_ (by show w.heap.size≤w.heap.size+1+1;omega) _))
 ·have KD:=Lib.hid (fun(w0:World) (E:Nat) (bv:Value) (w:World) (h:EdB w0.heap.size E bv t w) (hG:Grew w0 w) (_:Env w0)=>HK3.out w0 E bv w h hG HRT.out HFF.out rfl)
  clear HK1 HK2 HK3 HK4 HK5 HOFF HRI HRT HFF
  by_cases hn:n=0
  ·subst hn
   go_enter Tryz.func67,Tryz.ntmps67
   go_wp2_with fail
   generalize (((w.alloc (.cells [.slice Ar t.roots.length cr,.slice Ab t.brs.length cb].toArray 43)).alloc (.cells [.int .i64 i,.int .i64 d,.int .i64 3,.int .i64 u,.int .i64 p,.int .i64 b,.int .i64 l,.string tt,.string m,.int .i64 x9,.int .i64 x10,.int .i64 x11].toArray 26)).alloc (.cells [.slice none 0 0,.slice none 0 0].toArray 43))=W3 at b0W b1W a0W a1W a2W a3W a4W a5W a6W a7W a8W a9W a10W a11W r0W r1W z0W z1W HPW GW hs3 ⊢
   obtain⟨V1,V2,V3,V4,V5,e1,e2,e3,e4,e5,hown,hgV⟩:=kinds_made W3
   obtain⟨v,el,ps,hfn⟩:=kinds_look hown hkw
   rw[hs3] at e1 e2 e3 e4 e5 el
   have GV:=Lib.hid (GW.out.trans hgV)
   have b0V:=keep_cell hgV b0W
   have b1V:=keep_cell hgV b1W
   have a0V:=keep_cell hgV a0W
   have a1V:=keep_cell hgV a1W
   have a2V:=keep_cell hgV a2W
   have a3V:=keep_cell hgV a3W
   have a4V:=keep_cell hgV a4W
   have a5V:=keep_cell hgV a5W
   have a6V:=keep_cell hgV a6W
   have a7V:=keep_cell hgV a7W
   have a8V:=keep_cell hgV a8W
   have a9V:=keep_cell hgV a9W
   have a10V:=keep_cell hgV a10W
   have a11V:=keep_cell hgV a11W
   have r0V:=keep_cell hgV r0W
   have r1V:=keep_cell hgV r1W
   have z0V:=(Grew.frozen hgV (p:=_) (World.block_lt_of_cell? _ _ r0W)).trans z0W
   have z1V:=(Grew.frozen hgV (p:=_) (World.block_lt_of_cell? _ _ r1W)).trans z1W
   have HPV:=Lib.hid (heap_grew hgV HPW.out)
   clear b0W b1W a0W a1W a2W a3W a4W a5W a6W a7W a8W a9W a10W a11W r0W r1W z0W z1W HPW GW hown
   rw[run_makeMap]
   rw[hyes] at el
   rw[kinds_3.2] at hfn
   obtain rfl:=fnElem_is hfn
   clear hfn
   go_wp2_with (first|(go_at_call 97;refine(KF.out _ GV.out).mono ?_;rintro e w1 ⟨rfl,g1⟩;have G1:=Lib.hid (GV.out.trans g1);have b01:=keep_cell g1 b0V;have b11:=keep_cell g1 b1V;have a01:=keep_cell g1 a0V;have a11:=keep_cell g1 a1V;have a21:=keep_cell g1 a2V;have a31:=keep_cell g1 a3V;have a41:=keep_cell g1 a4V;have a51:=keep_cell g1 a5V;have a61:=keep_cell g1 a6V;have a71:=keep_cell g1 a7V;have a81:=keep_cell g1 a8V;have a91:=keep_cell g1 a9V;have a101:=keep_cell g1 a10V;have a111:=keep_cell g1 a11V;have r01:=keep_cell g1 r0V;have r11:=keep_cell g1 r1V;have z01:=(Grew.frozen g1 (p:=_) (World.block_lt_of_cell? _ _ r0V)).trans z0V;have z11:=(Grew.frozen g1 (p:=_) (World.block_lt_of_cell? _ _ r1V)).trans z1V;have HPV1:=Lib.hid (heap_grew g1 HPV.out);clear g1)|(go_at_call 98;refine(KR.out _ G1.out).mono ?_;rintro e w2 ⟨bb,rfl,hbb,g2⟩;have hq:=HRR.out bb hbb;subst hq;have G2:=Lib.hid (G1.out.trans g2);have b02:=keep_cell g2 b01;have b12:=keep_cell g2 b11;have a02:=keep_cell g2 a01;have a12:=keep_cell g2 a11;have a22:=keep_cell g2 a21;have a32:=keep_cell g2 a31;have a42:=keep_cell g2 a41;have a52:=keep_cell g2 a51;have a62:=keep_cell g2 a61;have a72:=keep_cell g2 a71;have a82:=keep_cell g2 a81;have a92:=keep_cell g2 a91;have a102:=keep_cell g2 a101;have a112:=keep_cell g2 a111;have r02:=keep_cell g2 r01;have r12:=keep_cell g2 r11;have z02:=(Grew.frozen g2 (p:=_) (World.block_lt_of_cell? _ _ r01)).trans z01;have z12:=(Grew.frozen g2 (p:=_) (World.block_lt_of_cell? _ _ r11)).trans z11;have G12:=Lib.hid g2;clear g2 hbb)|(go_at_call 99;refine(KE.out _ G2.out).mono ?_;rintro e w3 ⟨E,bv3,rfl,hEd,g3⟩;have HEd:=Lib.hid hEd;have HG3:=Lib.hid g3;have G3:=Lib.hid (G2.out.trans g3);have b03:=keep_cell g3 b02;have b13:=keep_cell g3 b12;have a03:=keep_cell g3 a02;have a13:=keep_cell g3 a12;have a23:=keep_cell g3 a22;have a33:=keep_cell g3 a32;have a43:=keep_cell g3 a42;have a53:=keep_cell g3 a52;have a63:=keep_cell g3 a62;have a73:=keep_cell g3 a72;have a83:=keep_cell g3 a82;have a93:=keep_cell g3 a92;have a103:=keep_cell g3 a102;have a113:=keep_cell g3 a112;have r03:=keep_cell g3 r02;have r13:=keep_cell g3 r12;have z03:=(Grew.frozen g3 (p:=_) (World.block_lt_of_cell? _ _ r02)).trans z02;have z13:=(Grew.frozen g3 (p:=_) (World.block_lt_of_cell? _ _ r12)).trans z12;clear g3 hEd)|((first|go_at_call 92|go_at_call 93|go_at_call 94|go_at_call 95|go_at_call 96);refine(KD.out _ _ _ _ HEd.out HG3.out (HE.out.mono G2.out)).mono ?_;rintro e w4 ⟨rfl,g24,hT⟩;have HT:=Lib.hid hT;have g4:=Lib.hid (show Grew w2 w4 from g24);have G4:=Lib.hid (G2.out.trans g24);have b04:=keep_cell g4.out b02;have b14:=keep_cell g4.out b12;have a04:=keep_cell g4.out a02;have a14:=keep_cell g4.out a12;have a24:=keep_cell g4.out a22;have a34:=keep_cell g4.out a32;have a44:=keep_cell g4.out a42;have a54:=keep_cell g4.out a52;have a64:=keep_cell g4.out a62;have a74:=keep_cell g4.out a72;have a84:=keep_cell g4.out a82;have a94:=keep_cell g4.out a92;have a104:=keep_cell g4.out a102;have a114:=keep_cell g4.out a112;have r04:=keep_cell g4.out r02;have r14:=keep_cell g4.out r12;have z04:=(Grew.frozen g4.out (p:=_) (World.block_lt_of_cell? _ _ r02)).trans z02;have z14:=(Grew.frozen g4.out (p:=_) (World.block_lt_of_cell? _ _ r12)).trans z12;obtain⟨bv5,rv5,cs5,hE5⟩:=hT rfl;obtain⟨q0,q1,-,-⟩:=hE5.cells;obtain⟨A5,c5,rfl⟩:=own_slice hE5.roots;obtain⟨A6,c6,rfl⟩:=own_slice hE5.brs;have HE5:=Lib.hid hE5;have HP4:=Lib.hid (heap_grew g4.out (heap_grew G12.out HPV1.out));clear g24 hT hE5))
   obtain⟨q0f,q1f⟩:=res_cells (v0:=(.slice A5 RT.roots.length c5)) (v1:=(.slice A6 RT.brs.length c6)) r04 r14
   refine bodyPost_ret (v:=.tuple #[.agg #[(.slice A5 RT.roots.length c5),(.slice A6 RT.brs.length c6)],.int .i64 0]) (by simp[results,Tryz.results67,go_sem,q0f,q1f]) rfl ?_
   exact apply_out HE5.out HP4.out (by omega) G4.out
  ·have hn2:(n != 0)=true:=by simpa using hn
   obtain rfl:=HERR.out hn
   go_enter Tryz.func67,Tryz.ntmps67
   go_wp2_with fail
   generalize (((w.alloc (.cells [.slice Ar t.roots.length cr,.slice Ab t.brs.length cb].toArray 43)).alloc (.cells [.int .i64 i,.int .i64 d,.int .i64 3,.int .i64 u,.int .i64 p,.int .i64 b,.int .i64 l,.string tt,.string m,.int .i64 x9,.int .i64 x10,.int .i64 x11].toArray 26)).alloc (.cells [.slice none 0 0,.slice none 0 0].toArray 43))=W3 at b0W b1W a0W a1W a2W a3W a4W a5W a6W a7W a8W a9W a10W a11W r0W r1W z0W z1W HPW GW hs3 ⊢
   obtain⟨V1,V2,V3,V4,V5,e1,e2,e3,e4,e5,hown,hgV⟩:=kinds_made W3
   obtain⟨v,el,ps,hfn⟩:=kinds_look hown hkw
   rw[hs3] at e1 e2 e3 e4 e5 el
   have GV:=Lib.hid (GW.out.trans hgV)
   have b0V:=keep_cell hgV b0W
   have b1V:=keep_cell hgV b1W
   have a0V:=keep_cell hgV a0W
   have a1V:=keep_cell hgV a1W
   have a2V:=keep_cell hgV a2W
   have a3V:=keep_cell hgV a3W
   have a4V:=keep_cell hgV a4W
   have a5V:=keep_cell hgV a5W
   have a6V:=keep_cell hgV a6W
   have a7V:=keep_cell hgV a7W
   have a8V:=keep_cell hgV a8W
   have a9V:=keep_cell hgV a9W
   have a10V:=keep_cell hgV a10W
   have a11V:=keep_cell hgV a11W
   have r0V:=keep_cell hgV r0W
   have r1V:=keep_cell hgV r1W
   have z0V:=(Grew.frozen hgV (p:=_) (World.block_lt_of_cell? _ _ r0W)).trans z0W
   have z1V:=(Grew.frozen hgV (p:=_) (World.block_lt_of_cell? _ _ r1W)).trans z1W
   have HPV:=Lib.hid (heap_grew hgV HPW.out)
   clear b0W b1W a0W a1W a2W a3W a4W a5W a6W a7W a8W a9W a10W a11W r0W r1W z0W z1W HPW GW hown
   rw[run_makeMap]
   rw[hyes] at el
   rw[kinds_3.2] at hfn
   obtain rfl:=fnElem_is hfn
   clear hfn
   go_wp2_with (first|(go_at_call 97;refine(KF.out _ GV.out).mono ?_;rintro e w1 ⟨rfl,g1⟩;have G1:=Lib.hid (GV.out.trans g1);have b01:=keep_cell g1 b0V;have b11:=keep_cell g1 b1V;have a01:=keep_cell g1 a0V;have a11:=keep_cell g1 a1V;have a21:=keep_cell g1 a2V;have a31:=keep_cell g1 a3V;have a41:=keep_cell g1 a4V;have a51:=keep_cell g1 a5V;have a61:=keep_cell g1 a6V;have a71:=keep_cell g1 a7V;have a81:=keep_cell g1 a8V;have a91:=keep_cell g1 a9V;have a101:=keep_cell g1 a10V;have a111:=keep_cell g1 a11V;have r01:=keep_cell g1 r0V;have r11:=keep_cell g1 r1V;have z01:=(Grew.frozen g1 (p:=_) (World.block_lt_of_cell? _ _ r0V)).trans z0V;have z11:=(Grew.frozen g1 (p:=_) (World.block_lt_of_cell? _ _ r1V)).trans z1V;clear g1)|(go_at_call 98;refine(KR.out _ G1.out).mono ?_;rintro e w2 ⟨bb,rfl,hbb,g2⟩;have hq:=HRR.out bb hbb;subst hq;have G2:=Lib.hid (G1.out.trans g2);have b02:=keep_cell g2 b01;have b12:=keep_cell g2 b11;have a02:=keep_cell g2 a01;have a12:=keep_cell g2 a11;have a22:=keep_cell g2 a21;have a32:=keep_cell g2 a31;have a42:=keep_cell g2 a41;have a52:=keep_cell g2 a51;have a62:=keep_cell g2 a61;have a72:=keep_cell g2 a71;have a82:=keep_cell g2 a81;have a92:=keep_cell g2 a91;have a102:=keep_cell g2 a101;have a112:=keep_cell g2 a111;have r02:=keep_cell g2 r01;have r12:=keep_cell g2 r11;have z02:=(Grew.frozen g2 (p:=_) (World.block_lt_of_cell? _ _ r01)).trans z01;have z12:=(Grew.frozen g2 (p:=_) (World.block_lt_of_cell? _ _ r11)).trans z11;clear g2 hbb)|(go_at_call 99;refine(KE.out _ G2.out).mono ?_;rintro e w3 ⟨E,bv3,rfl,hEd,g3⟩;have HEd:=Lib.hid hEd;have HG3:=Lib.hid g3;have G3:=Lib.hid (G2.out.trans g3);have b03:=keep_cell g3 b02;have b13:=keep_cell g3 b12;have a03:=keep_cell g3 a02;have a13:=keep_cell g3 a12;have a23:=keep_cell g3 a22;have a33:=keep_cell g3 a32;have a43:=keep_cell g3 a42;have a53:=keep_cell g3 a52;have a63:=keep_cell g3 a62;have a73:=keep_cell g3 a72;have a83:=keep_cell g3 a82;have a93:=keep_cell g3 a92;have a103:=keep_cell g3 a102;have a113:=keep_cell g3 a112;have r03:=keep_cell g3 r02;have r13:=keep_cell g3 r12;have z03:=(Grew.frozen g3 (p:=_) (World.block_lt_of_cell? _ _ r02)).trans z02;have z13:=(Grew.frozen g3 (p:=_) (World.block_lt_of_cell? _ _ r12)).trans z12;clear g3 hEd)|((first|go_at_call 92|go_at_call 93|go_at_call 94|go_at_call 95|go_at_call 96);refine(KD.out _ _ _ _ HEd.out HG3.out (HE.out.mono G2.out)).mono ?_;rintro e w4 ⟨rfl,g24,hT⟩;have HT:=Lib.hid hT;have g4:=Lib.hid (show Grew w2 w4 from g24);have G4:=Lib.hid (G2.out.trans g24);have b04:=keep_cell g4.out b02;have b14:=keep_cell g4.out b12;have a04:=keep_cell g4.out a02;have a14:=keep_cell g4.out a12;have a24:=keep_cell g4.out a22;have a34:=keep_cell g4.out a32;have a44:=keep_cell g4.out a42;have a54:=keep_cell g4.out a52;have a64:=keep_cell g4.out a62;have a74:=keep_cell g4.out a72;have a84:=keep_cell g4.out a82;have a94:=keep_cell g4.out a92;have a104:=keep_cell g4.out a102;have a114:=keep_cell g4.out a112;have r04:=keep_cell g4.out r02;have r14:=keep_cell g4.out r12;have z04:=(Grew.frozen g4.out (p:=_) (World.block_lt_of_cell? _ _ r02)).trans z02;have z14:=(Grew.frozen g4.out (p:=_) (World.block_lt_of_cell? _ _ r12)).trans z12;clear g24 hT))
   obtain⟨q0f,q1f⟩:=res_cells (v0:=(.slice none 0 0)) (v1:=(.slice none 0 0)) r04 r14
   refine bodyPost_ret (v:=.tuple #[.agg #[(.slice none 0 0),(.slice none 0 0)],.int .i64 n]) (by simp[results,Tryz.results67,go_sem,q0f,q1f]) rfl ?_
   exact RetTr.none (by repeat (first|exact G4.out|refine Grew.setCell ?_ (by show w.heap.size≤w.heap.size+1+1;omega) _))
 ·have KD:=Lib.hid (fun(w0:World) (E:Nat) (bv:Value) (w:World) (h:EdB w0.heap.size E bv t w) (hG:Grew w0 w) (_:Env w0)=>HK4.out w0 E bv w h hG HRT.out HFF.out rfl)
  clear HK1 HK2 HK3 HK4 HK5 HOFF HRI HRT HFF
  by_cases hn:n=0
  ·subst hn
   go_enter Tryz.func67,Tryz.ntmps67
   go_wp2_with fail
   generalize (((w.alloc (.cells [.slice Ar t.roots.length cr,.slice Ab t.brs.length cb].toArray 43)).alloc (.cells [.int .i64 i,.int .i64 d,.int .i64 4,.int .i64 u,.int .i64 p,.int .i64 b,.int .i64 l,.string tt,.string m,.int .i64 x9,.int .i64 x10,.int .i64 x11].toArray 26)).alloc (.cells [.slice none 0 0,.slice none 0 0].toArray 43))=W3 at b0W b1W a0W a1W a2W a3W a4W a5W a6W a7W a8W a9W a10W a11W r0W r1W z0W z1W HPW GW hs3 ⊢
   obtain⟨V1,V2,V3,V4,V5,e1,e2,e3,e4,e5,hown,hgV⟩:=kinds_made W3
   obtain⟨v,el,ps,hfn⟩:=kinds_look hown hkw
   rw[hs3] at e1 e2 e3 e4 e5 el
   have GV:=Lib.hid (GW.out.trans hgV)
   have b0V:=keep_cell hgV b0W
   have b1V:=keep_cell hgV b1W
   have a0V:=keep_cell hgV a0W
   have a1V:=keep_cell hgV a1W
   have a2V:=keep_cell hgV a2W
   have a3V:=keep_cell hgV a3W
   have a4V:=keep_cell hgV a4W
   have a5V:=keep_cell hgV a5W
   have a6V:=keep_cell hgV a6W
   have a7V:=keep_cell hgV a7W
   have a8V:=keep_cell hgV a8W
   have a9V:=keep_cell hgV a9W
   have a10V:=keep_cell hgV a10W
   have a11V:=keep_cell hgV a11W
   have r0V:=keep_cell hgV r0W
   have r1V:=keep_cell hgV r1W
   have z0V:=(Grew.frozen hgV (p:=_) (World.block_lt_of_cell? _ _ r0W)).trans z0W
   have z1V:=(Grew.frozen hgV (p:=_) (World.block_lt_of_cell? _ _ r1W)).trans z1W
   have HPV:=Lib.hid (heap_grew hgV HPW.out)
   clear b0W b1W a0W a1W a2W a3W a4W a5W a6W a7W a8W a9W a10W a11W r0W r1W z0W z1W HPW GW hown
   rw[run_makeMap]
   rw[hyes] at el
   rw[kinds_4.2] at hfn
   obtain rfl:=fnElem_is hfn
   clear hfn
   go_wp2_with (first|(go_at_call 97;refine(KF.out _ GV.out).mono ?_;rintro e w1 ⟨rfl,g1⟩;have G1:=Lib.hid (GV.out.trans g1);have b01:=keep_cell g1 b0V;have b11:=keep_cell g1 b1V;have a01:=keep_cell g1 a0V;have a11:=keep_cell g1 a1V;have a21:=keep_cell g1 a2V;have a31:=keep_cell g1 a3V;have a41:=keep_cell g1 a4V;have a51:=keep_cell g1 a5V;have a61:=keep_cell g1 a6V;have a71:=keep_cell g1 a7V;have a81:=keep_cell g1 a8V;have a91:=keep_cell g1 a9V;have a101:=keep_cell g1 a10V;have a111:=keep_cell g1 a11V;have r01:=keep_cell g1 r0V;have r11:=keep_cell g1 r1V;have z01:=(Grew.frozen g1 (p:=_) (World.block_lt_of_cell? _ _ r0V)).trans z0V;have z11:=(Grew.frozen g1 (p:=_) (World.block_lt_of_cell? _ _ r1V)).trans z1V;have HPV1:=Lib.hid (heap_grew g1 HPV.out);clear g1)|(go_at_call 98;refine(KR.out _ G1.out).mono ?_;rintro e w2 ⟨bb,rfl,hbb,g2⟩;have hq:=HRR.out bb hbb;subst hq;have G2:=Lib.hid (G1.out.trans g2);have b02:=keep_cell g2 b01;have b12:=keep_cell g2 b11;have a02:=keep_cell g2 a01;have a12:=keep_cell g2 a11;have a22:=keep_cell g2 a21;have a32:=keep_cell g2 a31;have a42:=keep_cell g2 a41;have a52:=keep_cell g2 a51;have a62:=keep_cell g2 a61;have a72:=keep_cell g2 a71;have a82:=keep_cell g2 a81;have a92:=keep_cell g2 a91;have a102:=keep_cell g2 a101;have a112:=keep_cell g2 a111;have r02:=keep_cell g2 r01;have r12:=keep_cell g2 r11;have z02:=(Grew.frozen g2 (p:=_) (World.block_lt_of_cell? _ _ r01)).trans z01;have z12:=(Grew.frozen g2 (p:=_) (World.block_lt_of_cell? _ _ r11)).trans z11;have G12:=Lib.hid g2;clear g2 hbb)|(go_at_call 99;refine(KE.out _ G2.out).mono ?_;rintro e w3 ⟨E,bv3,rfl,hEd,g3⟩;have HEd:=Lib.hid hEd;have HG3:=Lib.hid g3;have G3:=Lib.hid (G2.out.trans g3);have b03:=keep_cell g3 b02;have b13:=keep_cell g3 b12;have a03:=keep_cell g3 a02;have a13:=keep_cell g3 a12;have a23:=keep_cell g3 a22;have a33:=keep_cell g3 a32;have a43:=keep_cell g3 a42;have a53:=keep_cell g3 a52;have a63:=keep_cell g3 a62;have a73:=keep_cell g3 a72;have a83:=keep_cell g3 a82;have a93:=keep_cell g3 a92;have a103:=keep_cell g3 a102;have a113:=keep_cell g3 a112;have r03:=keep_cell g3 r02;have r13:=keep_cell g3 r12;have z03:=(Grew.frozen g3 (p:=_) (World.block_lt_of_cell? _ _ r02)).trans z02;have z13:=(Grew.frozen g3 (p:=_) (World.block_lt_of_cell? _ _ r12)).trans z12;clear g3 hEd)|((first|go_at_call 92|go_at_call 93|go_at_call 94|go_at_call 95|go_at_call 96);refine(KD.out _ _ _ _ HEd.out HG3.out (HE.out.mono G2.out)).mono ?_;rintro e w4 ⟨rfl,g24,hT⟩;have HT:=Lib.hid hT;have g4:=Lib.hid (show Grew w2 w4 from g24);have G4:=Lib.hid (G2.out.trans g24);have b04:=keep_cell g4.out b02;have b14:=keep_cell g4.out b12;have a04:=keep_cell g4.out a02;have a14:=keep_cell g4.out a12;have a24:=keep_cell g4.out a22;have a34:=keep_cell g4.out a32;have a44:=keep_cell g4.out a42;have a54:=keep_cell g4.out a52;have a64:=keep_cell g4.out a62;have a74:=keep_cell g4.out a72;have a84:=keep_cell g4.out a82;have a94:=keep_cell g4.out a92;have a104:=keep_cell g4.out a102;have a114:=keep_cell g4.out a112;have r04:=keep_cell g4.out r02;have r14:=keep_cell g4.out r12;have z04:=(Grew.frozen g4.out (p:=_) (World.block_lt_of_cell? _ _ r02)).trans z02;have z14:=(Grew.frozen g4.out (p:=_) (World.block_lt_of_cell? _ _ r12)).trans z12;obtain⟨bv5,rv5,cs5,hE5⟩:=hT rfl;obtain⟨q0,q1,-,-⟩:=hE5.cells;obtain⟨A5,c5,rfl⟩:=own_slice hE5.roots;obtain⟨A6,c6,rfl⟩:=own_slice hE5.brs;have HE5:=Lib.hid hE5;have HP4:=Lib.hid (heap_grew g4.out (heap_grew G12.out HPV1.out));clear g24 hT hE5))
   obtain⟨q0f,q1f⟩:=res_cells (v0:=(.slice A5 RT.roots.length c5)) (v1:=(.slice A6 RT.brs.length c6)) r04 r14
   refine bodyPost_ret (v:=.tuple #[.agg #[(.slice A5 RT.roots.length c5),(.slice A6 RT.brs.length c6)],.int .i64 0]) (by simp[results,Tryz.results67,go_sem,q0f,q1f]) rfl ?_
   exact apply_out HE5.out HP4.out (by omega) G4.out
  ·have hn2:(n != 0)=true:=by simpa using hn
   obtain rfl:=HERR.out hn
   go_enter Tryz.func67,Tryz.ntmps67
   go_wp2_with fail
   generalize (((w.alloc (.cells [.slice Ar t.roots.length cr,.slice Ab t.brs.length cb].toArray 43)).alloc (.cells [.int .i64 i,.int .i64 d,.int .i64 4,.int .i64 u,.int .i64 p,.int .i64 b,.int .i64 l,.string tt,.string m,.int .i64 x9,.int .i64 x10,.int .i64 x11].toArray 26)).alloc (.cells [.slice none 0 0,.slice none 0 0].toArray 43))=W3 at b0W b1W a0W a1W a2W a3W a4W a5W a6W a7W a8W a9W a10W a11W r0W r1W z0W z1W HPW GW hs3 ⊢
   obtain⟨V1,V2,V3,V4,V5,e1,e2,e3,e4,e5,hown,hgV⟩:=kinds_made W3
   obtain⟨v,el,ps,hfn⟩:=kinds_look hown hkw
   rw[hs3] at e1 e2 e3 e4 e5 el
   have GV:=Lib.hid (GW.out.trans hgV)
   have b0V:=keep_cell hgV b0W
   have b1V:=keep_cell hgV b1W
   have a0V:=keep_cell hgV a0W
   have a1V:=keep_cell hgV a1W
   have a2V:=keep_cell hgV a2W
   have a3V:=keep_cell hgV a3W
   have a4V:=keep_cell hgV a4W
   have a5V:=keep_cell hgV a5W
   have a6V:=keep_cell hgV a6W
   have a7V:=keep_cell hgV a7W
   have a8V:=keep_cell hgV a8W
   have a9V:=keep_cell hgV a9W
   have a10V:=keep_cell hgV a10W
   have a11V:=keep_cell hgV a11W
   have r0V:=keep_cell hgV r0W
   have r1V:=keep_cell hgV r1W
   have z0V:=(Grew.frozen hgV (p:=_) (World.block_lt_of_cell? _ _ r0W)).trans z0W
   have z1V:=(Grew.frozen hgV (p:=_) (World.block_lt_of_cell? _ _ r1W)).trans z1W
   have HPV:=Lib.hid (heap_grew hgV HPW.out)
   clear b0W b1W a0W a1W a2W a3W a4W a5W a6W a7W a8W a9W a10W a11W r0W r1W z0W z1W HPW GW hown
   rw[run_makeMap]
   rw[hyes] at el
   rw[kinds_4.2] at hfn
   obtain rfl:=fnElem_is hfn
   clear hfn
   go_wp2_with (first|(go_at_call 97;refine(KF.out _ GV.out).mono ?_;rintro e w1 ⟨rfl,g1⟩;have G1:=Lib.hid (GV.out.trans g1);have b01:=keep_cell g1 b0V;have b11:=keep_cell g1 b1V;have a01:=keep_cell g1 a0V;have a11:=keep_cell g1 a1V;have a21:=keep_cell g1 a2V;have a31:=keep_cell g1 a3V;have a41:=keep_cell g1 a4V;have a51:=keep_cell g1 a5V;have a61:=keep_cell g1 a6V;have a71:=keep_cell g1 a7V;have a81:=keep_cell g1 a8V;have a91:=keep_cell g1 a9V;have a101:=keep_cell g1 a10V;have a111:=keep_cell g1 a11V;have r01:=keep_cell g1 r0V;have r11:=keep_cell g1 r1V;have z01:=(Grew.frozen g1 (p:=_) (World.block_lt_of_cell? _ _ r0V)).trans z0V;have z11:=(Grew.frozen g1 (p:=_) (World.block_lt_of_cell? _ _ r1V)).trans z1V;clear g1)|(go_at_call 98;refine(KR.out _ G1.out).mono ?_;rintro e w2 ⟨bb,rfl,hbb,g2⟩;have hq:=HRR.out bb hbb;subst hq;have G2:=Lib.hid (G1.out.trans g2);have b02:=keep_cell g2 b01;have b12:=keep_cell g2 b11;have a02:=keep_cell g2 a01;have a12:=keep_cell g2 a11;have a22:=keep_cell g2 a21;have a32:=keep_cell g2 a31;have a42:=keep_cell g2 a41;have a52:=keep_cell g2 a51;have a62:=keep_cell g2 a61;have a72:=keep_cell g2 a71;have a82:=keep_cell g2 a81;have a92:=keep_cell g2 a91;have a102:=keep_cell g2 a101;have a112:=keep_cell g2 a111;have r02:=keep_cell g2 r01;have r12:=keep_cell g2 r11;have z02:=(Grew.frozen g2 (p:=_) (World.block_lt_of_cell? _ _ r01)).trans z01;have z12:=(Grew.frozen g2 (p:=_) (World.block_lt_of_cell? _ _ r11)).trans z11;clear g2 hbb)|(go_at_call 99;refine(KE.out _ G2.out).mono ?_;rintro e w3 ⟨E,bv3,rfl,hEd,g3⟩;have HEd:=Lib.hid hEd;have HG3:=Lib.hid g3;have G3:=Lib.hid (G2.out.trans g3);have b03:=keep_cell g3 b02;have b13:=keep_cell g3 b12;have a03:=keep_cell g3 a02;have a13:=keep_cell g3 a12;have a23:=keep_cell g3 a22;have a33:=keep_cell g3 a32;have a43:=keep_cell g3 a42;have a53:=keep_cell g3 a52;have a63:=keep_cell g3 a62;have a73:=keep_cell g3 a72;have a83:=keep_cell g3 a82;have a93:=keep_cell g3 a92;have a103:=keep_cell g3 a102;have a113:=keep_cell g3 a112;have r03:=keep_cell g3 r02;have r13:=keep_cell g3 r12;have z03:=(Grew.frozen g3 (p:=_) (World.block_lt_of_cell? _ _ r02)).trans z02;have z13:=(Grew.frozen g3 (p:=_) (World.block_lt_of_cell? _ _ r12)).trans z12;clear g3 hEd)|((first|go_at_call 92|go_at_call 93|go_at_call 94|go_at_call 95|go_at_call 96);refine(KD.out _ _ _ _ HEd.out HG3.out (HE.out.mono G2.out)).mono ?_;rintro e w4 ⟨rfl,g24,hT⟩;have HT:=Lib.hid hT;have g4:=Lib.hid (show Grew w2 w4 from g24);have G4:=Lib.hid (G2.out.trans g24);have b04:=keep_cell g4.out b02;have b14:=keep_cell g4.out b12;have a04:=keep_cell g4.out a02;have a14:=keep_cell g4.out a12;have a24:=keep_cell g4.out a22;have a34:=keep_cell g4.out a32;have a44:=keep_cell g4.out a42;have a54:=keep_cell g4.out a52;have a64:=keep_cell g4.out a62;have a74:=keep_cell g4.out a72;have a84:=keep_cell g4.out a82;have a94:=keep_cell g4.out a92;have a104:=keep_cell g4.out a102;have a114:=keep_cell g4.out a112;have r04:=keep_cell g4.out r02;have r14:=keep_cell g4.out r12;have z04:=(Grew.frozen g4.out (p:=_) (World.block_lt_of_cell? _ _ r02)).trans z02;have z14:=(Grew.frozen g4.out (p:=_) (World.block_lt_of_cell? _ _ r12)).trans z12;clear g24 hT))
   obtain⟨q0f,q1f⟩:=res_cells (v0:=(.slice none 0 0)) (v1:=(.slice none 0 0)) r04 r14
   refine bodyPost_ret (v:=.tuple #[.agg #[(.slice none 0 0),(.slice none 0 0)],.int .i64 n]) (by simp[results,Tryz.results67,go_sem,q0f,q1f]) rfl ?_
   exact RetTr.none (by repeat (first|exact G4.out|refine Grew.setCell ?_ (by show w.heap.size≤w.heap.size+1+1;omega) _))
 ·have KD:=Lib.hid (fun(w0:World) (E:Nat) (bv:Value) (w:World) (h:EdB w0.heap.size E bv t w) (hG:Grew w0 w) (_:Env w0)=>HK5.out w0 E bv w h hG HRT.out HFF.out rfl)
  clear HK1 HK2 HK3 HK4 HK5 HOFF HRI HRT HFF
  by_cases hn:n=0
  ·subst hn
   go_enter Tryz.func67,Tryz.ntmps67
   go_wp2_with fail
   generalize (((w.alloc (.cells [.slice Ar t.roots.length cr,.slice Ab t.brs.length cb].toArray 43)).alloc (.cells [.int .i64 i,.int .i64 d,.int .i64 5,.int .i64 u,.int .i64 p,.int .i64 b,.int .i64 l,.string tt,.string m,.int .i64 x9,.int .i64 x10,.int .i64 x11].toArray 26)).alloc (.cells [.slice none 0 0,.slice none 0 0].toArray 43))=W3 at b0W b1W a0W a1W a2W a3W a4W a5W a6W a7W a8W a9W a10W a11W r0W r1W z0W z1W HPW GW hs3 ⊢
   obtain⟨V1,V2,V3,V4,V5,e1,e2,e3,e4,e5,hown,hgV⟩:=kinds_made W3
   obtain⟨v,el,ps,hfn⟩:=kinds_look hown hkw
   rw[hs3] at e1 e2 e3 e4 e5 el
   have GV:=Lib.hid (GW.out.trans hgV)
   have b0V:=keep_cell hgV b0W
   have b1V:=keep_cell hgV b1W
   have a0V:=keep_cell hgV a0W
   have a1V:=keep_cell hgV a1W
   have a2V:=keep_cell hgV a2W
   have a3V:=keep_cell hgV a3W
   have a4V:=keep_cell hgV a4W
   have a5V:=keep_cell hgV a5W
   have a6V:=keep_cell hgV a6W
   have a7V:=keep_cell hgV a7W
   have a8V:=keep_cell hgV a8W
   have a9V:=keep_cell hgV a9W
   have a10V:=keep_cell hgV a10W
   have a11V:=keep_cell hgV a11W
   have r0V:=keep_cell hgV r0W
   have r1V:=keep_cell hgV r1W
   have z0V:=(Grew.frozen hgV (p:=_) (World.block_lt_of_cell? _ _ r0W)).trans z0W
   have z1V:=(Grew.frozen hgV (p:=_) (World.block_lt_of_cell? _ _ r1W)).trans z1W
   have HPV:=Lib.hid (heap_grew hgV HPW.out)
   clear b0W b1W a0W a1W a2W a3W a4W a5W a6W a7W a8W a9W a10W a11W r0W r1W z0W z1W HPW GW hown
   rw[run_makeMap]
   rw[hyes] at el
   rw[kinds_5.2] at hfn
   obtain rfl:=fnElem_is hfn
   clear hfn
   go_wp2_with (first|(go_at_call 97;refine(KF.out _ GV.out).mono ?_;rintro e w1 ⟨rfl,g1⟩;have G1:=Lib.hid (GV.out.trans g1);have b01:=keep_cell g1 b0V;have b11:=keep_cell g1 b1V;have a01:=keep_cell g1 a0V;have a11:=keep_cell g1 a1V;have a21:=keep_cell g1 a2V;have a31:=keep_cell g1 a3V;have a41:=keep_cell g1 a4V;have a51:=keep_cell g1 a5V;have a61:=keep_cell g1 a6V;have a71:=keep_cell g1 a7V;have a81:=keep_cell g1 a8V;have a91:=keep_cell g1 a9V;have a101:=keep_cell g1 a10V;have a111:=keep_cell g1 a11V;have r01:=keep_cell g1 r0V;have r11:=keep_cell g1 r1V;have z01:=(Grew.frozen g1 (p:=_) (World.block_lt_of_cell? _ _ r0V)).trans z0V;have z11:=(Grew.frozen g1 (p:=_) (World.block_lt_of_cell? _ _ r1V)).trans z1V;have HPV1:=Lib.hid (heap_grew g1 HPV.out);clear g1)|(go_at_call 98;refine(KR.out _ G1.out).mono ?_;rintro e w2 ⟨bb,rfl,hbb,g2⟩;have hq:=HRR.out bb hbb;subst hq;have G2:=Lib.hid (G1.out.trans g2);have b02:=keep_cell g2 b01;have b12:=keep_cell g2 b11;have a02:=keep_cell g2 a01;have a12:=keep_cell g2 a11;have a22:=keep_cell g2 a21;have a32:=keep_cell g2 a31;have a42:=keep_cell g2 a41;have a52:=keep_cell g2 a51;have a62:=keep_cell g2 a61;have a72:=keep_cell g2 a71;have a82:=keep_cell g2 a81;have a92:=keep_cell g2 a91;have a102:=keep_cell g2 a101;have a112:=keep_cell g2 a111;have r02:=keep_cell g2 r01;have r12:=keep_cell g2 r11;have z02:=(Grew.frozen g2 (p:=_) (World.block_lt_of_cell? _ _ r01)).trans z01;have z12:=(Grew.frozen g2 (p:=_) (World.block_lt_of_cell? _ _ r11)).trans z11;have G12:=Lib.hid g2;clear g2 hbb)|(go_at_call 99;refine(KE.out _ G2.out).mono ?_;rintro e w3 ⟨E,bv3,rfl,hEd,g3⟩;have HEd:=Lib.hid hEd;have HG3:=Lib.hid g3;have G3:=Lib.hid (G2.out.trans g3);have b03:=keep_cell g3 b02;have b13:=keep_cell g3 b12;have a03:=keep_cell g3 a02;have a13:=keep_cell g3 a12;have a23:=keep_cell g3 a22;have a33:=keep_cell g3 a32;have a43:=keep_cell g3 a42;have a53:=keep_cell g3 a52;have a63:=keep_cell g3 a62;have a73:=keep_cell g3 a72;have a83:=keep_cell g3 a82;have a93:=keep_cell g3 a92;have a103:=keep_cell g3 a102;have a113:=keep_cell g3 a112;have r03:=keep_cell g3 r02;have r13:=keep_cell g3 r12;have z03:=(Grew.frozen g3 (p:=_) (World.block_lt_of_cell? _ _ r02)).trans z02;have z13:=(Grew.frozen g3 (p:=_) (World.block_lt_of_cell? _ _ r12)).trans z12;clear g3 hEd)|((first|go_at_call 92|go_at_call 93|go_at_call 94|go_at_call 95|go_at_call 96);refine(KD.out _ _ _ _ HEd.out HG3.out (HE.out.mono G2.out)).mono ?_;rintro e w4 ⟨rfl,g24,hT⟩;have HT:=Lib.hid hT;have g4:=Lib.hid (show Grew w2 w4 from g24);have G4:=Lib.hid (G2.out.trans g24);have b04:=keep_cell g4.out b02;have b14:=keep_cell g4.out b12;have a04:=keep_cell g4.out a02;have a14:=keep_cell g4.out a12;have a24:=keep_cell g4.out a22;have a34:=keep_cell g4.out a32;have a44:=keep_cell g4.out a42;have a54:=keep_cell g4.out a52;have a64:=keep_cell g4.out a62;have a74:=keep_cell g4.out a72;have a84:=keep_cell g4.out a82;have a94:=keep_cell g4.out a92;have a104:=keep_cell g4.out a102;have a114:=keep_cell g4.out a112;have r04:=keep_cell g4.out r02;have r14:=keep_cell g4.out r12;have z04:=(Grew.frozen g4.out (p:=_) (World.block_lt_of_cell? _ _ r02)).trans z02;have z14:=(Grew.frozen g4.out (p:=_) (World.block_lt_of_cell? _ _ r12)).trans z12;obtain⟨bv5,rv5,cs5,hE5⟩:=hT rfl;obtain⟨q0,q1,-,-⟩:=hE5.cells;obtain⟨A5,c5,rfl⟩:=own_slice hE5.roots;obtain⟨A6,c6,rfl⟩:=own_slice hE5.brs;have HE5:=Lib.hid hE5;have HP4:=Lib.hid (heap_grew g4.out (heap_grew G12.out HPV1.out));clear g24 hT hE5))
   obtain⟨q0f,q1f⟩:=res_cells (v0:=(.slice A5 RT.roots.length c5)) (v1:=(.slice A6 RT.brs.length c6)) r04 r14
   refine bodyPost_ret (v:=.tuple #[.agg #[(.slice A5 RT.roots.length c5),(.slice A6 RT.brs.length c6)],.int .i64 0]) (by simp[results,Tryz.results67,go_sem,q0f,q1f]) rfl ?_
   exact apply_out HE5.out HP4.out (by omega) G4.out
  ·have hn2:(n != 0)=true:=by simpa using hn
   obtain rfl:=HERR.out hn
   go_enter Tryz.func67,Tryz.ntmps67
   go_wp2_with fail
   generalize (((w.alloc (.cells [.slice Ar t.roots.length cr,.slice Ab t.brs.length cb].toArray 43)).alloc (.cells [.int .i64 i,.int .i64 d,.int .i64 5,.int .i64 u,.int .i64 p,.int .i64 b,.int .i64 l,.string tt,.string m,.int .i64 x9,.int .i64 x10,.int .i64 x11].toArray 26)).alloc (.cells [.slice none 0 0,.slice none 0 0].toArray 43))=W3 at b0W b1W a0W a1W a2W a3W a4W a5W a6W a7W a8W a9W a10W a11W r0W r1W z0W z1W HPW GW hs3 ⊢
   obtain⟨V1,V2,V3,V4,V5,e1,e2,e3,e4,e5,hown,hgV⟩:=kinds_made W3
   obtain⟨v,el,ps,hfn⟩:=kinds_look hown hkw
   rw[hs3] at e1 e2 e3 e4 e5 el
   have GV:=Lib.hid (GW.out.trans hgV)
   have b0V:=keep_cell hgV b0W
   have b1V:=keep_cell hgV b1W
   have a0V:=keep_cell hgV a0W
   have a1V:=keep_cell hgV a1W
   have a2V:=keep_cell hgV a2W
   have a3V:=keep_cell hgV a3W
   have a4V:=keep_cell hgV a4W
   have a5V:=keep_cell hgV a5W
   have a6V:=keep_cell hgV a6W
   have a7V:=keep_cell hgV a7W
   have a8V:=keep_cell hgV a8W
   have a9V:=keep_cell hgV a9W
   have a10V:=keep_cell hgV a10W
   have a11V:=keep_cell hgV a11W
   have r0V:=keep_cell hgV r0W
   have r1V:=keep_cell hgV r1W
   have z0V:=(Grew.frozen hgV (p:=_) (World.block_lt_of_cell? _ _ r0W)).trans z0W
   have z1V:=(Grew.frozen hgV (p:=_) (World.block_lt_of_cell? _ _ r1W)).trans z1W
   have HPV:=Lib.hid (heap_grew hgV HPW.out)
   clear b0W b1W a0W a1W a2W a3W a4W a5W a6W a7W a8W a9W a10W a11W r0W r1W z0W z1W HPW GW hown
   rw[run_makeMap]
   rw[hyes] at el
   rw[kinds_5.2] at hfn
   obtain rfl:=fnElem_is hfn
   clear hfn
   go_wp2_with (first|(go_at_call 97;refine(KF.out _ GV.out).mono ?_;rintro e w1 ⟨rfl,g1⟩;have G1:=Lib.hid (GV.out.trans g1);have b01:=keep_cell g1 b0V;have b11:=keep_cell g1 b1V;have a01:=keep_cell g1 a0V;have a11:=keep_cell g1 a1V;have a21:=keep_cell g1 a2V;have a31:=keep_cell g1 a3V;have a41:=keep_cell g1 a4V;have a51:=keep_cell g1 a5V;have a61:=keep_cell g1 a6V;have a71:=keep_cell g1 a7V;have a81:=keep_cell g1 a8V;have a91:=keep_cell g1 a9V;have a101:=keep_cell g1 a10V;have a111:=keep_cell g1 a11V;have r01:=keep_cell g1 r0V;have r11:=keep_cell g1 r1V;have z01:=(Grew.frozen g1 (p:=_) (World.block_lt_of_cell? _ _ r0V)).trans z0V;have z11:=(Grew.frozen g1 (p:=_) (World.block_lt_of_cell? _ _ r1V)).trans z1V;clear g1)|(go_at_call 98;refine(KR.out _ G1.out).mono ?_;rintro e w2 ⟨bb,rfl,hbb,g2⟩;have hq:=HRR.out bb hbb;subst hq;have G2:=Lib.hid (G1.out.trans g2);have b02:=keep_cell g2 b01;have b12:=keep_cell g2 b11;have a02:=keep_cell g2 a01;have a12:=keep_cell g2 a11;have a22:=keep_cell g2 a21;have a32:=keep_cell g2 a31;have a42:=keep_cell g2 a41;have a52:=keep_cell g2 a51;have a62:=keep_cell g2 a61;have a72:=keep_cell g2 a71;have a82:=keep_cell g2 a81;have a92:=keep_cell g2 a91;have a102:=keep_cell g2 a101;have a112:=keep_cell g2 a111;have r02:=keep_cell g2 r01;have r12:=keep_cell g2 r11;have z02:=(Grew.frozen g2 (p:=_) (World.block_lt_of_cell? _ _ r01)).trans z01;have z12:=(Grew.frozen g2 (p:=_) (World.block_lt_of_cell? _ _ r11)).trans z11;clear g2 hbb)|(go_at_call 99;refine(KE.out _ G2.out).mono ?_;rintro e w3 ⟨E,bv3,rfl,hEd,g3⟩;have HEd:=Lib.hid hEd;have HG3:=Lib.hid g3;have G3:=Lib.hid (G2.out.trans g3);have b03:=keep_cell g3 b02;have b13:=keep_cell g3 b12;have a03:=keep_cell g3 a02;have a13:=keep_cell g3 a12;have a23:=keep_cell g3 a22;have a33:=keep_cell g3 a32;have a43:=keep_cell g3 a42;have a53:=keep_cell g3 a52;have a63:=keep_cell g3 a62;have a73:=keep_cell g3 a72;have a83:=keep_cell g3 a82;have a93:=keep_cell g3 a92;have a103:=keep_cell g3 a102;have a113:=keep_cell g3 a112;have r03:=keep_cell g3 r02;have r13:=keep_cell g3 r12;have z03:=(Grew.frozen g3 (p:=_) (World.block_lt_of_cell? _ _ r02)).trans z02;have z13:=(Grew.frozen g3 (p:=_) (World.block_lt_of_cell? _ _ r12)).trans z12;clear g3 hEd)|((first|go_at_call 92|go_at_call 93|go_at_call 94|go_at_call 95|go_at_call 96);refine(KD.out _ _ _ _ HEd.out HG3.out (HE.out.mono G2.out)).mono ?_;rintro e w4 ⟨rfl,g24,hT⟩;have HT:=Lib.hid hT;have g4:=Lib.hid (show Grew w2 w4 from g24);have G4:=Lib.hid (G2.out.trans g24);have b04:=keep_cell g4.out b02;have b14:=keep_cell g4.out b12;have a04:=keep_cell g4.out a02;have a14:=keep_cell g4.out a12;have a24:=keep_cell g4.out a22;have a34:=keep_cell g4.out a32;have a44:=keep_cell g4.out a42;have a54:=keep_cell g4.out a52;have a64:=keep_cell g4.out a62;have a74:=keep_cell g4.out a72;have a84:=keep_cell g4.out a82;have a94:=keep_cell g4.out a92;have a104:=keep_cell g4.out a102;have a114:=keep_cell g4.out a112;have r04:=keep_cell g4.out r02;have r14:=keep_cell g4.out r12;have z04:=(Grew.frozen g4.out (p:=_) (World.block_lt_of_cell? _ _ r02)).trans z02;have z14:=(Grew.frozen g4.out (p:=_) (World.block_lt_of_cell? _ _ r12)).trans z12;clear g24 hT))
   obtain⟨q0f,q1f⟩:=res_cells (v0:=(.slice none 0 0)) (v1:=(.slice none 0 0)) r04 r14
   refine bodyPost_ret (v:=.tuple #[.agg #[(.slice none 0 0),(.slice none 0 0)],.int .i64 n]) (by simp[results,Tryz.results67,go_sem,q0f,q1f]) rfl ?_
   exact RetTr.none (by repeat (first|exact G4.out|refine Grew.setCell ?_ (by show w.heap.size≤w.heap.size+1+1;omega) _))
end Go.Proofs.YtdochkemaiokfaaGreat