/- Lemmas on what the functions of the program and of the library compute: LUb. The conditions stand at each. -/
import Derived.Test.YtdochkemaiokfaaGreatQ28
/- The law's next, walked: an undo that follows a log. No condition. -/
namespace Go.Proofs.YtdochkemaiokfaaGreat
open Go.RowKit
def nextW (l:List Opn) (u:Int):Opn:=match l.getLast? with
 | some y=>⟨wrap64 (y.id+1),y.day,6,u,0,0,0,⟨#[]⟩,⟨#[]⟩,0,0,0⟩
 | none=>⟨1,0,6,u,0,0,0,⟨#[]⟩,⟨#[]⟩,0,0,0⟩
set_option maxHeartbeats 8000000 in
set_option maxRecDepth 100000 in
theorem lNext (l:List Opn) (u:Int) (lv:Value) (w:World) (hv:SlO w lv l):Calls Tryz.prog 34 #[lv,.int .i64 u] w fun e w'=>e=.returned (nextW l u).agg∧Grew w w':=by
 obtain⟨A,c,rfl,hlc,hcap,hr⟩:=hv.open_
 unfold maxLen at hcap
 have HR:=Lib.hid hr
 have hP:∀(v:List Value) (t:TypeId),True:=fun _ _=>trivial
 clear hP
 have hP0:=heapKeep ((Grew.refl _).alloc (.cells #[.int .i64 1,.int .i64 0,.int .i64 6,.int .i64 u,.int .i64 0,.int .i64 0,.int .i64 0,.string ⟨#[]⟩,.string ⟨#[]⟩,.int .i64 0,.int .i64 0,.int .i64 0] 26)) (heapNew w (.cells #[.int .i64 0,.int .i64 0,.int .i64 0,.int .i64 0,.int .i64 0,.int .i64 0,.int .i64 0,.string ⟨#[]⟩,.string ⟨#[]⟩,.int .i64 0,.int .i64 0,.int .i64 0] 26))
 have hQ0:=heapNew (w.alloc (.cells #[.int .i64 0,.int .i64 0,.int .i64 0,.int .i64 0,.int .i64 0,.int .i64 0,.int .i64 0,.string ⟨#[]⟩,.string ⟨#[]⟩,.int .i64 0,.int .i64 0,.int .i64 0] 26)) (.cells #[.int .i64 1,.int .i64 0,.int .i64 6,.int .i64 u,.int .i64 0,.int .i64 0,.int .i64 0,.string ⟨#[]⟩,.string ⟨#[]⟩,.int .i64 0,.int .i64 0,.int .i64 0] 26)
 rw[World.size_alloc] at hQ0
 have hG0:=((Grew.refl w).alloc (.cells #[.int .i64 0,.int .i64 0,.int .i64 0,.int .i64 0,.int .i64 0,.int .i64 0,.int .i64 0,.string ⟨#[]⟩,.string ⟨#[]⟩,.int .i64 0,.int .i64 0,.int .i64 0] 26)).alloc (.cells #[.int .i64 1,.int .i64 0,.int .i64 6,.int .i64 u,.int .i64 0,.int .i64 0,.int .i64 0,.string ⟨#[]⟩,.string ⟨#[]⟩,.int .i64 0,.int .i64 0,.int .i64 0] 26)
 obtain⟨wA,hA⟩:∃ wA,((w.alloc (.cells #[.int .i64 0,.int .i64 0,.int .i64 0,.int .i64 0,.int .i64 0,.int .i64 0,.int .i64 0,.string ⟨#[]⟩,.string ⟨#[]⟩,.int .i64 0,.int .i64 0,.int .i64 0] 26)).alloc (.cells #[.int .i64 1,.int .i64 0,.int .i64 6,.int .i64 u,.int .i64 0,.int .i64 0,.int .i64 0,.string ⟨#[]⟩,.string ⟨#[]⟩,.int .i64 0,.int .i64 0,.int .i64 0] 26))=wA:=⟨_,rfl⟩
 rw[hA] at hP0 hQ0 hG0
 have HP0:=Lib.hid hP0
 have HQ0:=Lib.hid hQ0
 have HG0:=Lib.hid hG0
 have HA:=Lib.hid hA
 clear hv hr hP0 hQ0 hG0 hA
 rcases Nat.eq_zero_or_pos l.length with h0|h0
 ·obtain rfl:l=[]:=List.eq_nil_of_length_eq_zero h0
  have hn:nextW [] u=⟨1,0,6,u,0,0,0,⟨#[]⟩,⟨#[]⟩,0,0,0⟩:=rfl
  rw[hn]
  clear hn h0
  unfold Opn.agg
  dsimp only
  go_enter Tryz.func34,Tryz.ntmps34
  go_wp2
  refine bodyPost_ret (v:=.agg #[.int .i64 1,.int .i64 0,.int .i64 6,.int .i64 u,.int .i64 0,.int .i64 0,.int .i64 0,.string ⟨#[]⟩,.string ⟨#[]⟩,.int .i64 0,.int .i64 0,.int .i64 0]) ?_ ?_ ?_
  ·simp[results,Tryz.results34,go_sem]
  ·rfl
  ·exact⟨rfl,((Grew.refl w).alloc _).alloc _⟩
 ·obtain⟨k,hk⟩:∃ k,l.length=k+1:=⟨l.length-1,by omega⟩
  obtain⟨b,off,rfl,hbb,hcell⟩:=HR.out h0
  obtain⟨c0,c1,-⟩:=hcell wA HG0.out k (by omega)
  have hn:nextW l u=⟨wrap64 (l[k].id+1),l[k].day,6,u,0,0,0,⟨#[]⟩,⟨#[]⟩,0,0,0⟩:=by
   unfold nextW
   have:l.getLast? = some l[k]:=by
    rw[List.getLast?_eq_getElem?,List.getElem?_eq_getElem (by omega)]
    simp only [hk,Nat.add_sub_cancel]
   rw[this]
  rw[hn]
  clear hn hcell
  generalize l[k].id=y0 at c0 ⊢
  generalize l[k].day=y1 at c1 ⊢
  rw[hk] at hlc ⊢
  unfold Opn.agg
  dsimp only
  have q0:wA.cell? ⟨w.heap.size+1,0,none⟩=some (.int .i64 1):=cellOf HQ0.out rfl
  have q1:wA.cell? ⟨w.heap.size+1,1,none⟩=some (.int .i64 0):=cellOf HQ0.out rfl
  have z0:wA.frozen? ⟨w.heap.size+1,0,none⟩=false:=freeOf HQ0.out
  have z1:wA.frozen? ⟨w.heap.size+1,1,none⟩=false:=freeOf HQ0.out
  have hb:(0:Int)<((k+1:Nat):Int):=by omega
  have hsub:wrap64 (((k+1:Nat):Int)-1)=(k:Int):=by
   rw[show(((k+1:Nat):Int)-1)=(k:Int) by omega]
   unfold wrap64
   omega
  have HQZ:=Lib.hid (And.intro q0 (And.intro q1 (And.intro z0 z1)))
  clear q0 q1 z0 z1
  go_enter Tryz.func34,Tryz.ntmps34
  go_wp2_with fail
  rw[HA.out]
  obtain⟨q0,q1,z0,z1⟩:=HQZ.out
  go_region
  have HPB:=Lib.hid (heapKeep (Grew.refl _).drew (heapTurn (grownSet _ (w.heap.size+1) 1 (.int .i64 y1)) (heapTurn (grownSet wA (w.heap.size+1) 0 (.int .i64 (wrap64 (y0+1)))) HP0.out (fun r h k=>by cases h;omega)) (fun r h k=>by cases h;omega)))
  have HQB:=Lib.hid (show((wA.setCell ⟨w.heap.size+1,0,none⟩ (.int .i64 (wrap64 (y0+1)))).setCell ⟨w.heap.size+1,1,none⟩ (.int .i64 y1)).drew.heap[w.heap.size+1]? = some (.cells #[.int .i64 (wrap64 (y0+1)),.int .i64 y1,.int .i64 6,.int .i64 u,.int .i64 0,.int .i64 0,.int .i64 0,.string ⟨#[]⟩,.string ⟨#[]⟩,.int .i64 0,.int .i64 0,.int .i64 0] 26 (0,0)) from by
   have h1:=heap_setCell_same wA (w.heap.size+1) 0 _ _ (.int .i64 (wrap64 (y0+1))) HQ0.out
   have h2:=heap_setCell_same _ (w.heap.size+1) 1 _ _ (.int .i64 y1) h1
   exact heapKeep (Grew.refl _).drew (by simpa using h2))
  have HGB:=Lib.hid (((HG0.out.setCell (p:=⟨w.heap.size+1,0,none⟩) (by show w.heap.size≤w.heap.size+1;omega) (.int .i64 (wrap64 (y0+1)))).setCell (p:=⟨w.heap.size+1,1,none⟩) (by show w.heap.size≤w.heap.size+1;omega) (.int .i64 y1)).drew)
  clear q0 q1 z0 z1 c0 c1 hsub HQZ
  generalize ((wA.setCell ⟨w.heap.size+1,0,none⟩ (.int .i64 (wrap64 (y0+1)))).setCell ⟨w.heap.size+1,1,none⟩ (.int .i64 y1)).drew=wB at *
  have q0:wB.cell? ⟨w.heap.size+1,0,none⟩=some (.int .i64 (wrap64 (y0+1))):=cellOf HQB.out rfl
  have q1:wB.cell? ⟨w.heap.size+1,1,none⟩=some (.int .i64 y1):=cellOf HQB.out rfl
  have q2:wB.cell? ⟨w.heap.size+1,2,none⟩=some (.int .i64 6):=cellOf HQB.out rfl
  have q3:wB.cell? ⟨w.heap.size+1,3,none⟩=some (.int .i64 u):=cellOf HQB.out rfl
  have q4:wB.cell? ⟨w.heap.size+1,4,none⟩=some (.int .i64 0):=cellOf HQB.out rfl
  have q5:wB.cell? ⟨w.heap.size+1,5,none⟩=some (.int .i64 0):=cellOf HQB.out rfl
  have q6:wB.cell? ⟨w.heap.size+1,6,none⟩=some (.int .i64 0):=cellOf HQB.out rfl
  have q7:wB.cell? ⟨w.heap.size+1,7,none⟩=some (.string ⟨#[]⟩):=cellOf HQB.out rfl
  have q8:wB.cell? ⟨w.heap.size+1,8,none⟩=some (.string ⟨#[]⟩):=cellOf HQB.out rfl
  have q9:wB.cell? ⟨w.heap.size+1,9,none⟩=some (.int .i64 0):=cellOf HQB.out rfl
  have q10:wB.cell? ⟨w.heap.size+1,10,none⟩=some (.int .i64 0):=cellOf HQB.out rfl
  have q11:wB.cell? ⟨w.heap.size+1,11,none⟩=some (.int .i64 0):=cellOf HQB.out rfl
  have p0:wB.cell? ⟨w.heap.size,0,none⟩=some (.int .i64 0):=cellOf HPB.out rfl
  have z0:wB.frozen? ⟨w.heap.size,0,none⟩=false:=freeOf HPB.out
  have p1:wB.cell? ⟨w.heap.size,1,none⟩=some (.int .i64 0):=cellOf HPB.out rfl
  have z1:wB.frozen? ⟨w.heap.size,1,none⟩=false:=freeOf HPB.out
  have p2:wB.cell? ⟨w.heap.size,2,none⟩=some (.int .i64 0):=cellOf HPB.out rfl
  have z2:wB.frozen? ⟨w.heap.size,2,none⟩=false:=freeOf HPB.out
  have p3:wB.cell? ⟨w.heap.size,3,none⟩=some (.int .i64 0):=cellOf HPB.out rfl
  have z3:wB.frozen? ⟨w.heap.size,3,none⟩=false:=freeOf HPB.out
  have p4:wB.cell? ⟨w.heap.size,4,none⟩=some (.int .i64 0):=cellOf HPB.out rfl
  have z4:wB.frozen? ⟨w.heap.size,4,none⟩=false:=freeOf HPB.out
  have p5:wB.cell? ⟨w.heap.size,5,none⟩=some (.int .i64 0):=cellOf HPB.out rfl
  have z5:wB.frozen? ⟨w.heap.size,5,none⟩=false:=freeOf HPB.out
  have p6:wB.cell? ⟨w.heap.size,6,none⟩=some (.int .i64 0):=cellOf HPB.out rfl
  have z6:wB.frozen? ⟨w.heap.size,6,none⟩=false:=freeOf HPB.out
  have p7:wB.cell? ⟨w.heap.size,7,none⟩=some (.string ⟨#[]⟩):=cellOf HPB.out rfl
  have z7:wB.frozen? ⟨w.heap.size,7,none⟩=false:=freeOf HPB.out
  have p8:wB.cell? ⟨w.heap.size,8,none⟩=some (.string ⟨#[]⟩):=cellOf HPB.out rfl
  have z8:wB.frozen? ⟨w.heap.size,8,none⟩=false:=freeOf HPB.out
  have p9:wB.cell? ⟨w.heap.size,9,none⟩=some (.int .i64 0):=cellOf HPB.out rfl
  have z9:wB.frozen? ⟨w.heap.size,9,none⟩=false:=freeOf HPB.out
  have p10:wB.cell? ⟨w.heap.size,10,none⟩=some (.int .i64 0):=cellOf HPB.out rfl
  have z10:wB.frozen? ⟨w.heap.size,10,none⟩=false:=freeOf HPB.out
  have p11:wB.cell? ⟨w.heap.size,11,none⟩=some (.int .i64 0):=cellOf HPB.out rfl
  have z11:wB.frozen? ⟨w.heap.size,11,none⟩=false:=freeOf HPB.out
  have hs:=set12 HPB.out (.int .i64 (wrap64 (y0+1))) (.int .i64 y1) (.int .i64 6) (.int .i64 u) (.int .i64 0) (.int .i64 0) (.int .i64 0) (.string ⟨#[]⟩) (.string ⟨#[]⟩) (.int .i64 0) (.int .i64 0) (.int .i64 0)
  have r0:=cellOf (i:=0) (x:=.int .i64 (wrap64 (y0+1))) hs rfl
  have r1:=cellOf (i:=1) (x:=.int .i64 y1) hs rfl
  have r2:=cellOf (i:=2) (x:=.int .i64 6) hs rfl
  have r3:=cellOf (i:=3) (x:=.int .i64 u) hs rfl
  have r4:=cellOf (i:=4) (x:=.int .i64 0) hs rfl
  have r5:=cellOf (i:=5) (x:=.int .i64 0) hs rfl
  have r6:=cellOf (i:=6) (x:=.int .i64 0) hs rfl
  have r7:=cellOf (i:=7) (x:=.string ⟨#[]⟩) hs rfl
  have r8:=cellOf (i:=8) (x:=.string ⟨#[]⟩) hs rfl
  have r9:=cellOf (i:=9) (x:=.int .i64 0) hs rfl
  have r10:=cellOf (i:=10) (x:=.int .i64 0) hs rfl
  have r11:=cellOf (i:=11) (x:=.int .i64 0) hs rfl
  have HRR:=Lib.hid (And.intro r0 (And.intro r1 (And.intro r2 (And.intro r3 (And.intro r4 (And.intro r5 (And.intro r6 (And.intro r7 (And.intro r8 (And.intro r9 (And.intro r10 (r11))))))))))))
  have HGW:=Lib.hid (grew12B (P:=w.heap.size) HGB.out (Nat.le_refl _) (.int .i64 (wrap64 (y0+1))) (.int .i64 y1) (.int .i64 6) (.int .i64 u) (.int .i64 0) (.int .i64 0) (.int .i64 0) (.string ⟨#[]⟩) (.string ⟨#[]⟩) (.int .i64 0) (.int .i64 0) (.int .i64 0))
  clear hs r0 r1 r2 r3 r4 r5 r6 r7 r8 r9 r10 r11
  go_wp2
  obtain⟨r0,r1,r2,r3,r4,r5,r6,r7,r8,r9,r10,r11⟩:=HRR.out
  generalize ((((((((((((wB.setCell ⟨w.heap.size,0,none⟩ (.int .i64 (wrap64 (y0+1)))).setCell ⟨w.heap.size,1,none⟩ (.int .i64 y1)).setCell ⟨w.heap.size,2,none⟩ (.int .i64 6)).setCell ⟨w.heap.size,3,none⟩ (.int .i64 u)).setCell ⟨w.heap.size,4,none⟩ (.int .i64 0)).setCell ⟨w.heap.size,5,none⟩ (.int .i64 0)).setCell ⟨w.heap.size,6,none⟩ (.int .i64 0)).setCell ⟨w.heap.size,7,none⟩ (.string ⟨#[]⟩)).setCell ⟨w.heap.size,8,none⟩ (.string ⟨#[]⟩)).setCell ⟨w.heap.size,9,none⟩ (.int .i64 0)).setCell ⟨w.heap.size,10,none⟩ (.int .i64 0)).setCell ⟨w.heap.size,11,none⟩ (.int .i64 0))=wz at *
  refine bodyPost_ret (v:=.agg #[.int .i64 (wrap64 (y0+1)),.int .i64 y1,.int .i64 6,.int .i64 u,.int .i64 0,.int .i64 0,.int .i64 0,.string ⟨#[]⟩,.string ⟨#[]⟩,.int .i64 0,.int .i64 0,.int .i64 0]) ?_ ?_ ?_
  ·simp[results,Tryz.results34,go_sem,r0,r1,r2,r3,r4,r5,r6,r7,r8,r9,r10,r11]
  ·rfl
  ·exact⟨rfl,HGW.out⟩
end Go.Proofs.YtdochkemaiokfaaGreat