/- Lemmas on what the functions of the program and of the library compute: Op. The conditions stand at each. -/
import Derived.Test.YtafncfomiolmgaaGreatDoorQ25
import Derived.Test.YtafncfomiolmgaaGreatDoorQ26
import Derived.Test.YtafncfomiolmgaaGreatDoorQ10
namespace Go.Proofs.YtafncfomiolmgaaGreatDoor
open Go.RowKit
set_option maxRecDepth 100000 in
theorem c_4 {p:Prop} (h:p:=by
 go_wp2_with fail
 refine(KA.out _ b_29).mono ?_
 rintro e w1 ⟨rv1,bv1,rfl,ht1,g1⟩
 obtain⟨A1,k1,rfl,-⟩:=SlI.open_ ht1.1
 obtain⟨A2,k2,rfl,-⟩:=ht1.2.open_
 obtain⟨⟨y0,y1⟩,⟨a0,a1,a2,a3,a4,a5,a6,a7,a8,a9,a10,a11⟩,⟨_,_,_,_,_,_,_,_,_,_,_,_⟩,_⟩:=HB.out (w1.alloc (.cells #[.slice A1 RT.roots.length k1,.slice A2 RT.brs.length k2] 35)) (g1.alloc _)
 have HG1:=uZ (show Grew w (w1.alloc (.cells #[.slice A1 RT.roots.length k1,.slice A2 RT.brs.length k2] 35)) from((((uX w).alloc _).alloc _).alloc _ |>.trans g1).alloc _)
 have HG3:=uZ (g1.alloc (.cells #[.slice A1 RT.roots.length k1,.slice A2 RT.brs.length k2] 35))
 clear g1 ht1
 dsimp only
 go_wp2_with fail
 refine(KF.out _ HG1.out).mono ?_
 rintro e w2 ⟨rfl,g2⟩
 replace HG3:=uZ (HG3.out.trans g2)
 replace HG1:=uZ (HG1.out.trans g2)
 clear g2 y0 y1 a0 a1 a2 a3 a4 a5 a6 a7 a8 a9 a10 a11
 obtain⟨⟨_,_⟩,⟨a0,a1,a2,a3,a4,a5,a6,a7,a8,a9,a10,a11⟩,⟨_,_,_,_,_,_,_,_,_,_,_,_⟩,_⟩:=HB.out (w2.alloc (.cells #[.int .i64 ub.id,.int .i64 ub.parent,.int .i64 ub.level,.string ub.title,.string ub.mark] 51)) (HG3.out.alloc _)
 have c2:=(HB.out ((w2.alloc (.cells #[.int .i64 ub.id,.int .i64 ub.parent,.int .i64 ub.level,.string ub.title,.string ub.mark] 51)).alloc (.cells #[.int .i64 i,.int .i64 d,.int .i64 2,.int .i64 u,.int .i64 0,.int .i64 0,.int .i64 0,.string ⟨#[]⟩,.string ⟨#[]⟩,.int .i64 0,.int .i64 0,.int .i64 0] 25)) ((HG3.out.alloc _).alloc _)).2.1.2.2.1
 dsimp only
 have HG4:=uZ (show Grew w ((w2.alloc (.cells #[.int .i64 ub.id,.int .i64 ub.parent,.int .i64 ub.level,.string ub.title,.string ub.mark] 51)).alloc (.cells #[.int .i64 i,.int .i64 d,.int .i64 2,.int .i64 u,.int .i64 0,.int .i64 0,.int .i64 0,.string ⟨#[]⟩,.string ⟨#[]⟩,.int .i64 0,.int .i64 0,.int .i64 0] 25)).drew from((HG1.out.alloc _).alloc _).drew)
 have HG5:=uZ ((((HG3.out.alloc (.cells #[.int .i64 ub.id,.int .i64 ub.parent,.int .i64 ub.level,.string ub.title,.string ub.mark] 51)).alloc (.cells #[.int .i64 i,.int .i64 d,.int .i64 2,.int .i64 u,.int .i64 0,.int .i64 0,.int .i64 0,.string ⟨#[]⟩,.string ⟨#[]⟩,.int .i64 0,.int .i64 0,.int .i64 0] 25))).drew)
 obtain⟨y0,y1⟩:=(HB.out ((w2.alloc (.cells #[.int .i64 ub.id,.int .i64 ub.parent,.int .i64 ub.level,.string ub.title,.string ub.mark] 51)).alloc (.cells #[.int .i64 i,.int .i64 d,.int .i64 2,.int .i64 u,.int .i64 0,.int .i64 0,.int .i64 0,.string ⟨#[]⟩,.string ⟨#[]⟩,.int .i64 0,.int .i64 0,.int .i64 0] 25)) ((HG3.out.alloc _).alloc _)).1
 have he:=fun j v (hj:([.int .i64 ub.id,.int .i64 ub.parent,.int .i64 ub.level,.string ub.title,.string ub.mark]:List Value)[j]? = some v)=>yQ (w:=w2) (t:=51) (show Grew _ ((w2.alloc (.cells #[.int .i64 ub.id,.int .i64 ub.parent,.int .i64 ub.level,.string ub.title,.string ub.mark] 51)).alloc (.cells #[.int .i64 i,.int .i64 d,.int .i64 2,.int .i64 u,.int .i64 0,.int .i64 0,.int .i64 0,.string ⟨#[]⟩,.string ⟨#[]⟩,.int .i64 0,.int .i64 0,.int .i64 0] 25)) from(uX _).alloc _) j v hj
 obtain⟨e0,e1,e2,e3,e4⟩:=(⟨he 0 _ rfl,he 1 _ rfl,he 2 _ rfl,he 3 _ rfl,he 4 _ rfl⟩:_∧_∧_∧_∧_)
 clear he
 have HX:=uZ (fun W (g:Grew ((w2.alloc (.cells #[.int .i64 ub.id,.int .i64 ub.parent,.int .i64 ub.level,.string ub.title,.string ub.mark] 51)).alloc (.cells #[.int .i64 i,.int .i64 d,.int .i64 2,.int .i64 u,.int .i64 0,.int .i64 0,.int .i64 0,.string ⟨#[]⟩,.string ⟨#[]⟩,.int .i64 0,.int .i64 0,.int .i64 0] 25)).drew W)=>(show(W.cell? ⟨w2.heap.size+1,0,none⟩=some (.int .i64 i)∧W.cell? ⟨w2.heap.size+1,1,none⟩=some (.int .i64 d)∧W.cell? ⟨w2.heap.size+1,2,none⟩=some (.int .i64 2)∧W.cell? ⟨w2.heap.size+1,3,none⟩=some (.int .i64 u)∧W.cell? ⟨w2.heap.size+1,4,none⟩=some (.int .i64 0)∧W.cell? ⟨w2.heap.size+1,5,none⟩=some (.int .i64 0)∧W.cell? ⟨w2.heap.size+1,6,none⟩=some (.int .i64 0)∧W.cell? ⟨w2.heap.size+1,7,none⟩=some (.string ⟨#[]⟩)∧W.cell? ⟨w2.heap.size+1,8,none⟩=some (.string ⟨#[]⟩)∧W.cell? ⟨w2.heap.size+1,9,none⟩=some (.int .i64 0)∧W.cell? ⟨w2.heap.size+1,10,none⟩=some (.int .i64 0)∧W.cell? ⟨w2.heap.size+1,11,none⟩=some (.int .i64 0))∧(∀ j,W.frozen? ⟨w2.heap.size+1,j,none⟩=false) from by
  have hx:=fun j v hj=>yQ (w:=(w2.alloc (.cells #[.int .i64 ub.id,.int .i64 ub.parent,.int .i64 ub.level,.string ub.title,.string ub.mark] 51))) (cs:=[.int .i64 i,.int .i64 d,.int .i64 2,.int .i64 u,.int .i64 0,.int .i64 0,.int .i64 0,.string ⟨#[]⟩,.string ⟨#[]⟩,.int .i64 0,.int .i64 0,.int .i64 0]) (t:=25) ((uX _).drew.trans g) j v hj
  have hz:=fun j=>new_frz (w:=(w2.alloc (.cells #[.int .i64 ub.id,.int .i64 ub.parent,.int .i64 ub.level,.string ub.title,.string ub.mark] 51))) (cs:=[.int .i64 i,.int .i64 d,.int .i64 2,.int .i64 u,.int .i64 0,.int .i64 0,.int .i64 0,.string ⟨#[]⟩,.string ⟨#[]⟩,.int .i64 0,.int .i64 0,.int .i64 0]) (t:=25) ((uX _).drew.trans g) j
  rw[size_allocB] at hx hz
  exact⟨⟨hx 0 _ rfl,hx 1 _ rfl,hx 2 _ rfl,hx 3 _ rfl,hx 4 _ rfl,hx 5 _ rfl,hx 6 _ rfl,hx 7 _ rfl,hx 8 _ rfl,hx 9 _ rfl,hx 10 _ rfl,hx 11 _ rfl⟩,hz⟩))
 go_wp2_with fail
 have HS0:=uZ (⟨y0,y1,e0,e1,e2,e3,e4⟩:_∧_∧_∧_∧_∧_∧_)
 have HT9:RowKit.Hid (w.heap.size≠w2.heap.size+1):=by
  have:=HG1.out.size
  show w.heap.size≠w2.heap.size+1
  omega
 have HU9:RowKit.Hid (w2.heap.size≠w2.heap.size+1):=by
  show w2.heap.size≠w2.heap.size+1
  omega
 clear y0 y1 e0 e1 e2 e3 e4
 go_region_held3 (fun W=>W.cell? ⟨w.heap.size,0,none⟩=some (.slice Ar t.roots.length cr)∧W.cell? ⟨w.heap.size,1,none⟩=some (.slice Ab t.brs.length cb)∧W.cell? ⟨w2.heap.size,0,none⟩=some (.int .i64 ub.id)∧W.cell? ⟨w2.heap.size,1,none⟩=some (.int .i64 ub.parent)∧W.cell? ⟨w2.heap.size,2,none⟩=some (.int .i64 ub.level)∧W.cell? ⟨w2.heap.size,3,none⟩=some (.string ub.title)∧W.cell? ⟨w2.heap.size,4,none⟩=some (.string ub.mark)) (first|((repeat (refine opp_keep HT9.out HU9.out ?_));exact HS0.out)|((repeat (refine opp_keep HT9.out HU9.out ?_));exact opp_grow HS0.out (by repeat (first|exact HGB.out|exact uX _|refine uJ ?_)))) (((first|go_at_call 61|go_at_call 63);refine(KBh.out _ HG4.out).mono ?_;rintro e wb ⟨rfl,gb⟩;obtain⟨⟨x0c,x1c,x2c,x3c,x4c,x5c,x6c,x7c,x8c,x9c,x10c,x11c⟩,zx⟩:=HX.out wb gb;have zx0:=zx 0;have zx1:=zx 1;have zx2:=zx 2;have zx3:=zx 3;have zx4:=zx 4;have zx5:=zx 5;have zx6:=zx 6;have zx7:=zx 7;have zx8:=zx 8;have zx9:=zx 9;have zx10:=zx 10;have zx11:=zx 11;have HGB:=uZ (show Grew ((w2.alloc (.cells #[.int .i64 ub.id,.int .i64 ub.parent,.int .i64 ub.level,.string ub.title,.string ub.mark] 51)).alloc (.cells #[.int .i64 i,.int .i64 d,.int .i64 2,.int .i64 u,.int .i64 0,.int .i64 0,.int .i64 0,.string ⟨#[]⟩,.string ⟨#[]⟩,.int .i64 0,.int .i64 0,.int .i64 0] 25)) wb from(uX _).drew.trans gb);clear gb zx;dsimp only))
 have HGF:=uZ (show Grew (((w.alloc (.cells #[.slice Ar t.roots.length cr,.slice Ab t.brs.length cb] 35)).alloc (.cells (⟨i,d,2,u,p,b,l,tt,m,x9,x10,x11⟩:Opn).cells.toArray 25)).alloc (.cells opn0.cells.toArray 25)) ((wb.setCell ⟨w2.heap.size+1,4,none⟩ (.int .i64 ub.parent)).setCell ⟨w2.heap.size+1,5,none⟩ (.int .i64 bh)) from(((((HG3.out.alloc _).alloc _).trans HGB.out).setCell b_23 _).setCell b_23 _))
 have HGW:=uZ (show Grew w ((wb.setCell ⟨w2.heap.size+1,4,none⟩ (.int .i64 ub.parent)).setCell ⟨w2.heap.size+1,5,none⟩ (.int .i64 bh)) from((((uX w).alloc _).alloc _).alloc _).trans HGF.out)
 obtain⟨_,_,⟨r0,r1,r2,r3,r4,r5,r6,r7,r8,r9,r10,r11⟩,z⟩:=HB.out _ HGF.out
 have z0:=z 0
 have z1:=z 1
 have z2:=z 2
 have z3:=z 3
 have z4:=z 4
 have z5:=z 5
 have z6:=z 6
 have z7:=z 7
 have z8:=z 8
 have z9:=z 9
 have z10:=z 10
 have z11:=z 11
 clear z
 obtain⟨WG,hWG⟩:∃ W,W=((wb.setCell ⟨w2.heap.size+1,4,none⟩ (.int .i64 ub.parent)).setCell ⟨w2.heap.size+1,5,none⟩ (.int .i64 bh)):=⟨_,rfl⟩
 have y0c:WG.cell? ⟨w2.heap.size+1,0,none⟩=some (.int .i64 i):=by rw[hWG];go_simp
 have y1c:WG.cell? ⟨w2.heap.size+1,1,none⟩=some (.int .i64 d):=by rw[hWG];go_simp
 have y2c:WG.cell? ⟨w2.heap.size+1,2,none⟩=some (.int .i64 2):=by rw[hWG];go_simp
 have y3c:WG.cell? ⟨w2.heap.size+1,3,none⟩=some (.int .i64 u):=by rw[hWG];go_simp
 have y4c:WG.cell? ⟨w2.heap.size+1,4,none⟩=some (.int .i64 ub.parent):=by rw[hWG];go_simp
 have y5c:WG.cell? ⟨w2.heap.size+1,5,none⟩=some (.int .i64 bh):=by rw[hWG];go_simp
 have y6c:WG.cell? ⟨w2.heap.size+1,6,none⟩=some (.int .i64 0):=by rw[hWG];go_simp
 have y7c:WG.cell? ⟨w2.heap.size+1,7,none⟩=some (.string ⟨#[]⟩):=by rw[hWG];go_simp
 have y8c:WG.cell? ⟨w2.heap.size+1,8,none⟩=some (.string ⟨#[]⟩):=by rw[hWG];go_simp
 have y9c:WG.cell? ⟨w2.heap.size+1,9,none⟩=some (.int .i64 0):=by rw[hWG];go_simp
 have y10c:WG.cell? ⟨w2.heap.size+1,10,none⟩=some (.int .i64 0):=by rw[hWG];go_simp
 have y11c:WG.cell? ⟨w2.heap.size+1,11,none⟩=some (.int .i64 0):=by rw[hWG];go_simp
 rw[hWG] at y0c y1c y2c y3c y4c y5c y6c y7c y8c y9c y10c y11c
 clear hWG WG
 generalize ((wb.setCell ⟨w2.heap.size+1,4,none⟩ (.int .i64 ub.parent)).setCell ⟨w2.heap.size+1,5,none⟩ (.int .i64 bh))=WF at HGF HGW r0 r1 r2 r3 r4 r5 r6 r7 r8 r9 r10 r11 z0 z1 z2 z3 z4 z5 z6 z7 z8 z9 z10 z11 y0c y1c y2c y3c y4c y5c y6c y7c y8c y9c y10c y11c ⊢
 clear x0c x1c x2c x3c x4c x5c x6c x7c x8c x9c x10c x11c zx0 zx1 zx2 zx3 zx4 zx5 zx6 zx7 zx8 zx9 zx10 zx11
 go_wp2_with fail
 obtain⟨q0,q1,q2,q3,q4,q5,q6,q7,q8,q9,q10,q11⟩:=res12 (v0:=.int .i64 i) (v1:=.int .i64 d) (v2:=.int .i64 2) (v3:=.int .i64 u) (v4:=.int .i64 ub.parent) (v5:=.int .i64 bh) (v6:=.int .i64 0) (v7:=.string ⟨#[]⟩) (v8:=.string ⟨#[]⟩) (v9:=.int .i64 0) (v10:=.int .i64 0) (v11:=.int .i64 0) r0 r1 r2 r3 r4 r5 r6 r7 r8 r9 r10 r11
 refine bodyPost_ret (v:=.tuple #[.agg #[.int .i64 i,.int .i64 d,.int .i64 2,.int .i64 u,.int .i64 ub.parent,.int .i64 bh,.int .i64 0,.string ⟨#[]⟩,.string ⟨#[]⟩,.int .i64 0,.int .i64 0,.int .i64 0],.int .i64 0]) b_3 rfl ?_
 exact⟨rfl,grew12 HGW.out b_28⟩):p:=h
set_option maxRecDepth 100000 in
theorem c_12 {p:Prop} (h:p:=by
 go_wp2_with fail
 refine(KA.out _ b_29).mono ?_
 rintro e w1 ⟨rv1,bv1,rfl,ht1,g1⟩
 obtain⟨A1,k1,rfl,-⟩:=SlI.open_ ht1.1
 obtain⟨A2,k2,rfl,-⟩:=ht1.2.open_
 obtain⟨⟨y0,y1⟩,⟨a0,a1,a2,a3,a4,a5,a6,a7,a8,a9,a10,a11⟩,⟨_,_,_,_,_,_,_,_,_,_,_,_⟩,_⟩:=HB.out (w1.alloc (.cells #[.slice A1 RT.roots.length k1,.slice A2 RT.brs.length k2] 35)) (g1.alloc _)
 have HG1:=uZ (show Grew w (w1.alloc (.cells #[.slice A1 RT.roots.length k1,.slice A2 RT.brs.length k2] 35)) from((((uX w).alloc _).alloc _).alloc _ |>.trans g1).alloc _)
 have HG3:=uZ (g1.alloc (.cells #[.slice A1 RT.roots.length k1,.slice A2 RT.brs.length k2] 35))
 clear g1 ht1
 dsimp only
 go_wp2_with fail
 refine(KF.out _ HG1.out).mono ?_
 rintro e w2 ⟨rfl,g2⟩
 replace HG3:=uZ (HG3.out.trans g2)
 replace HG1:=uZ (HG1.out.trans g2)
 clear g2 y0 y1 a0 a1 a2 a3 a4 a5 a6 a7 a8 a9 a10 a11
 obtain⟨⟨_,_⟩,⟨a0,a1,a2,a3,a4,a5,a6,a7,a8,a9,a10,a11⟩,⟨_,_,_,_,_,_,_,_,_,_,_,_⟩,_⟩:=HB.out (w2.alloc (.cells #[.int .i64 ub.id,.int .i64 ub.parent,.int .i64 ub.level,.string ub.title,.string ub.mark] 51)) (HG3.out.alloc _)
 have c2:=(HB.out ((w2.alloc (.cells #[.int .i64 ub.id,.int .i64 ub.parent,.int .i64 ub.level,.string ub.title,.string ub.mark] 51)).alloc (.cells #[.int .i64 i,.int .i64 d,.int .i64 3,.int .i64 u,.int .i64 0,.int .i64 0,.int .i64 0,.string ⟨#[]⟩,.string ⟨#[]⟩,.int .i64 0,.int .i64 0,.int .i64 0] 25)) ((HG3.out.alloc _).alloc _)).2.1.2.2.1
 dsimp only
 obtain⟨⟨_,_⟩,⟨_,_,_,_,_,_,_,_,_,_,_,_⟩,⟨r0,r1,r2,r3,r4,r5,r6,r7,r8,r9,r10,r11⟩,z⟩:=HB.out ((w2.alloc (.cells #[.int .i64 ub.id,.int .i64 ub.parent,.int .i64 ub.level,.string ub.title,.string ub.mark] 51)).alloc (.cells #[.int .i64 i,.int .i64 d,.int .i64 3,.int .i64 u,.int .i64 0,.int .i64 0,.int .i64 0,.string ub.title,.string ⟨#[]⟩,.int .i64 0,.int .i64 0,.int .i64 0] 25)) ((HG3.out.alloc _).alloc _)
 have z0:=z 0
 have z1:=z 1
 have z2:=z 2
 have z3:=z 3
 have z4:=z 4
 have z5:=z 5
 have z6:=z 6
 have z7:=z 7
 have z8:=z 8
 have z9:=z 9
 have z10:=z 10
 have z11:=z 11
 clear z
 have he:=fun j v (hj:([.int .i64 ub.id,.int .i64 ub.parent,.int .i64 ub.level,.string ub.title,.string ub.mark]:List Value)[j]? = some v)=>yQ (w:=w2) (t:=51) (show Grew _ ((w2.alloc (.cells #[.int .i64 ub.id,.int .i64 ub.parent,.int .i64 ub.level,.string ub.title,.string ub.mark] 51)).alloc (.cells #[.int .i64 i,.int .i64 d,.int .i64 3,.int .i64 u,.int .i64 0,.int .i64 0,.int .i64 0,.string ⟨#[]⟩,.string ⟨#[]⟩,.int .i64 0,.int .i64 0,.int .i64 0] 25)) from(uX _).alloc _) j v hj
 obtain⟨e0,e1,e2,e3,e4⟩:=(⟨he 0 _ rfl,he 1 _ rfl,he 2 _ rfl,he 3 _ rfl,he 4 _ rfl⟩:_∧_∧_∧_∧_)
 clear he
 go_wp2_with fail
 obtain⟨q0,q1,q2,q3,q4,q5,q6,q7,q8,q9,q10,q11⟩:=res12 (v0:=.int .i64 i) (v1:=.int .i64 d) (v2:=.int .i64 3) (v3:=.int .i64 u) (v4:=.int .i64 0) (v5:=.int .i64 0) (v6:=.int .i64 0) (v7:=.string ub.title) (v8:=.string ⟨#[]⟩) (v9:=.int .i64 0) (v10:=.int .i64 0) (v11:=.int .i64 0) r0 r1 r2 r3 r4 r5 r6 r7 r8 r9 r10 r11
 refine bodyPost_ret (v:=.tuple #[.agg #[.int .i64 i,.int .i64 d,.int .i64 3,.int .i64 u,.int .i64 0,.int .i64 0,.int .i64 0,.string ub.title,.string ⟨#[]⟩,.int .i64 0,.int .i64 0,.int .i64 0],.int .i64 0]) b_3 rfl ?_
 exact⟨rfl,grew12 ((HG1.out.alloc _).alloc _) b_28⟩):p:=h
set_option maxRecDepth 100000 in
theorem c_13 {p:Prop} (h:p:=by
 go_wp2_with fail
 refine(KA.out _ b_29).mono ?_
 rintro e w1 ⟨rv1,bv1,rfl,ht1,g1⟩
 obtain⟨A1,k1,rfl,-⟩:=SlI.open_ ht1.1
 obtain⟨A2,k2,rfl,-⟩:=ht1.2.open_
 obtain⟨⟨y0,y1⟩,⟨a0,a1,a2,a3,a4,a5,a6,a7,a8,a9,a10,a11⟩,⟨_,_,_,_,_,_,_,_,_,_,_,_⟩,_⟩:=HB.out (w1.alloc (.cells #[.slice A1 RT.roots.length k1,.slice A2 RT.brs.length k2] 35)) (g1.alloc _)
 have HG1:=uZ (show Grew w (w1.alloc (.cells #[.slice A1 RT.roots.length k1,.slice A2 RT.brs.length k2] 35)) from((((uX w).alloc _).alloc _).alloc _ |>.trans g1).alloc _)
 have HG3:=uZ (g1.alloc (.cells #[.slice A1 RT.roots.length k1,.slice A2 RT.brs.length k2] 35))
 clear g1 ht1
 dsimp only
 go_wp2_with fail
 refine(KF.out _ HG1.out).mono ?_
 rintro e w2 ⟨rfl,g2⟩
 replace HG3:=uZ (HG3.out.trans g2)
 replace HG1:=uZ (HG1.out.trans g2)
 clear g2 y0 y1 a0 a1 a2 a3 a4 a5 a6 a7 a8 a9 a10 a11
 obtain⟨⟨_,_⟩,⟨a0,a1,a2,a3,a4,a5,a6,a7,a8,a9,a10,a11⟩,⟨_,_,_,_,_,_,_,_,_,_,_,_⟩,_⟩:=HB.out (w2.alloc (.cells #[.int .i64 ub.id,.int .i64 ub.parent,.int .i64 ub.level,.string ub.title,.string ub.mark] 51)) (HG3.out.alloc _)
 have c2:=(HB.out ((w2.alloc (.cells #[.int .i64 ub.id,.int .i64 ub.parent,.int .i64 ub.level,.string ub.title,.string ub.mark] 51)).alloc (.cells #[.int .i64 i,.int .i64 d,.int .i64 4,.int .i64 u,.int .i64 0,.int .i64 0,.int .i64 0,.string ⟨#[]⟩,.string ⟨#[]⟩,.int .i64 0,.int .i64 0,.int .i64 0] 25)) ((HG3.out.alloc _).alloc _)).2.1.2.2.1
 dsimp only
 obtain⟨⟨_,_⟩,⟨_,_,_,_,_,_,_,_,_,_,_,_⟩,⟨r0,r1,r2,r3,r4,r5,r6,r7,r8,r9,r10,r11⟩,z⟩:=HB.out ((w2.alloc (.cells #[.int .i64 ub.id,.int .i64 ub.parent,.int .i64 ub.level,.string ub.title,.string ub.mark] 51)).alloc (.cells #[.int .i64 i,.int .i64 d,.int .i64 4,.int .i64 u,.int .i64 0,.int .i64 0,.int .i64 0,.string ⟨#[]⟩,.string ub.mark,.int .i64 0,.int .i64 0,.int .i64 0] 25)) ((HG3.out.alloc _).alloc _)
 have z0:=z 0
 have z1:=z 1
 have z2:=z 2
 have z3:=z 3
 have z4:=z 4
 have z5:=z 5
 have z6:=z 6
 have z7:=z 7
 have z8:=z 8
 have z9:=z 9
 have z10:=z 10
 have z11:=z 11
 clear z
 have he:=fun j v (hj:([.int .i64 ub.id,.int .i64 ub.parent,.int .i64 ub.level,.string ub.title,.string ub.mark]:List Value)[j]? = some v)=>yQ (w:=w2) (t:=51) (show Grew _ ((w2.alloc (.cells #[.int .i64 ub.id,.int .i64 ub.parent,.int .i64 ub.level,.string ub.title,.string ub.mark] 51)).alloc (.cells #[.int .i64 i,.int .i64 d,.int .i64 4,.int .i64 u,.int .i64 0,.int .i64 0,.int .i64 0,.string ⟨#[]⟩,.string ⟨#[]⟩,.int .i64 0,.int .i64 0,.int .i64 0] 25)) from(uX _).alloc _) j v hj
 obtain⟨e0,e1,e2,e3,e4⟩:=(⟨he 0 _ rfl,he 1 _ rfl,he 2 _ rfl,he 3 _ rfl,he 4 _ rfl⟩:_∧_∧_∧_∧_)
 clear he
 go_wp2_with fail
 obtain⟨q0,q1,q2,q3,q4,q5,q6,q7,q8,q9,q10,q11⟩:=res12 (v0:=.int .i64 i) (v1:=.int .i64 d) (v2:=.int .i64 4) (v3:=.int .i64 u) (v4:=.int .i64 0) (v5:=.int .i64 0) (v6:=.int .i64 0) (v7:=.string ⟨#[]⟩) (v8:=.string ub.mark) (v9:=.int .i64 0) (v10:=.int .i64 0) (v11:=.int .i64 0) r0 r1 r2 r3 r4 r5 r6 r7 r8 r9 r10 r11
 refine bodyPost_ret (v:=.tuple #[.agg #[.int .i64 i,.int .i64 d,.int .i64 4,.int .i64 u,.int .i64 0,.int .i64 0,.int .i64 0,.string ⟨#[]⟩,.string ub.mark,.int .i64 0,.int .i64 0,.int .i64 0],.int .i64 0]) b_3 rfl ?_
 exact⟨rfl,grew12 ((HG1.out.alloc _).alloc _) b_28⟩):p:=h
set_option maxRecDepth 100000 in
theorem c_16 {p:Prop} (h:p:=by
 go_wp2_with fail
 refine(KA.out _ b_29).mono ?_
 rintro e w1 ⟨rv1,bv1,rfl,ht1,g1⟩
 obtain⟨A1,k1,rfl,-⟩:=SlI.open_ ht1.1
 obtain⟨A2,k2,rfl,-⟩:=ht1.2.open_
 obtain⟨⟨y0,y1⟩,⟨a0,a1,a2,a3,a4,a5,a6,a7,a8,a9,a10,a11⟩,⟨_,_,_,_,_,_,_,_,_,_,_,_⟩,_⟩:=HB.out (w1.alloc (.cells #[.slice A1 RT.roots.length k1,.slice A2 RT.brs.length k2] 35)) (g1.alloc _)
 have HG1:=uZ (show Grew w (w1.alloc (.cells #[.slice A1 RT.roots.length k1,.slice A2 RT.brs.length k2] 35)) from((((uX w).alloc _).alloc _).alloc _ |>.trans g1).alloc _)
 have HG3:=uZ (g1.alloc (.cells #[.slice A1 RT.roots.length k1,.slice A2 RT.brs.length k2] 35))
 clear g1 ht1
 dsimp only
 go_wp2_with fail
 refine(KF.out _ HG1.out).mono ?_
 rintro e w2 ⟨rfl,g2⟩
 replace HG3:=uZ (HG3.out.trans g2)
 replace HG1:=uZ (HG1.out.trans g2)
 clear g2 y0 y1 a0 a1 a2 a3 a4 a5 a6 a7 a8 a9 a10 a11
 obtain⟨⟨_,_⟩,⟨a0,a1,a2,a3,a4,a5,a6,a7,a8,a9,a10,a11⟩,⟨_,_,_,_,_,_,_,_,_,_,_,_⟩,_⟩:=HB.out (w2.alloc (.cells #[.int .i64 0,.int .i64 0,.int .i64 0,.string ⟨#[]⟩,.string ⟨#[]⟩] 51)) (HG3.out.alloc _)
 have c2:=(HB.out ((w2.alloc (.cells #[.int .i64 0,.int .i64 0,.int .i64 0,.string ⟨#[]⟩,.string ⟨#[]⟩] 51)).alloc (.cells #[.int .i64 i,.int .i64 d,.int .i64 1,.int .i64 u,.int .i64 0,.int .i64 0,.int .i64 0,.string ⟨#[]⟩,.string ⟨#[]⟩,.int .i64 0,.int .i64 0,.int .i64 0] 25)) ((HG3.out.alloc _).alloc _)).2.1.2.2.1
 dsimp only
 obtain⟨⟨_,_⟩,⟨_,_,_,_,_,_,_,_,_,_,_,_⟩,⟨r0,r1,r2,r3,r4,r5,r6,r7,r8,r9,r10,r11⟩,z⟩:=HB.out ((w2.alloc (.cells #[.int .i64 0,.int .i64 0,.int .i64 0,.string ⟨#[]⟩,.string ⟨#[]⟩] 51)).alloc (.cells #[.int .i64 i,.int .i64 d,.int .i64 5,.int .i64 u,.int .i64 0,.int .i64 0,.int .i64 0,.string ⟨#[]⟩,.string ⟨#[]⟩,.int .i64 0,.int .i64 0,.int .i64 0] 25)) ((HG3.out.alloc _).alloc _)
 have z0:=z 0
 have z1:=z 1
 have z2:=z 2
 have z3:=z 3
 have z4:=z 4
 have z5:=z 5
 have z6:=z 6
 have z7:=z 7
 have z8:=z 8
 have z9:=z 9
 have z10:=z 10
 have z11:=z 11
 clear z
 go_wp2_with fail
 obtain⟨q0,q1,q2,q3,q4,q5,q6,q7,q8,q9,q10,q11⟩:=res12 (v0:=.int .i64 i) (v1:=.int .i64 d) (v2:=.int .i64 5) (v3:=.int .i64 u) (v4:=.int .i64 0) (v5:=.int .i64 0) (v6:=.int .i64 0) (v7:=.string ⟨#[]⟩) (v8:=.string ⟨#[]⟩) (v9:=.int .i64 0) (v10:=.int .i64 0) (v11:=.int .i64 0) r0 r1 r2 r3 r4 r5 r6 r7 r8 r9 r10 r11
 refine bodyPost_ret (v:=.tuple #[.agg #[.int .i64 i,.int .i64 d,.int .i64 5,.int .i64 u,.int .i64 0,.int .i64 0,.int .i64 0,.string ⟨#[]⟩,.string ⟨#[]⟩,.int .i64 0,.int .i64 0,.int .i64 0],.int .i64 0]) b_3 rfl ?_
 exact⟨rfl,grew12 ((HG1.out.alloc _).alloc _) b_28⟩):p:=h
set_option maxRecDepth 100000 in
theorem c_26 {p:Prop} (h:p:=by
 go_wp2_with fail
 refine(KA.out _ b_29).mono ?_
 rintro e w1 ⟨rv1,bv1,rfl,ht1,g1⟩
 obtain⟨A1,k1,rfl,-⟩:=SlI.open_ ht1.1
 obtain⟨A2,k2,rfl,-⟩:=ht1.2.open_
 obtain⟨-,-,⟨r0,r1,r2,r3,r4,r5,r6,r7,r8,r9,r10,r11⟩,z⟩:=HB.out _ (g1.alloc (.cells #[.slice A1 RT.roots.length k1,.slice A2 RT.brs.length k2] 35))
 have z0:=z 0
 have z1:=z 1
 have z2:=z 2
 have z3:=z 3
 have z4:=z 4
 have z5:=z 5
 have z6:=z 6
 have z7:=z 7
 have z8:=z 8
 have z9:=z 9
 have z10:=z 10
 have z11:=z 11
 have HG1:=uZ (show Grew w w1 from((((uX w).alloc _).alloc _).alloc _).trans g1)
 clear g1 ht1 z
 dsimp only
 go_wp2_with fail
 obtain⟨q0,q1,q2,q3,q4,q5,q6,q7,q8,q9,q10,q11⟩:=res12 (v0:=.int .i64 0) (v1:=.int .i64 0) (v2:=.int .i64 0) (v3:=.int .i64 0) (v4:=.int .i64 0) (v5:=.int .i64 0) (v6:=.int .i64 0) (v7:=.string ⟨#[]⟩) (v8:=.string ⟨#[]⟩) (v9:=.int .i64 0) (v10:=.int .i64 0) (v11:=.int .i64 0) r0 r1 r2 r3 r4 r5 r6 r7 r8 r9 r10 r11
 refine bodyPost_ret (v:=.tuple #[.agg #[.int .i64 0,.int .i64 0,.int .i64 0,.int .i64 0,.int .i64 0,.int .i64 0,.int .i64 0,.string ⟨#[]⟩,.string ⟨#[]⟩,.int .i64 0,.int .i64 0,.int .i64 0],.int .i64 n]) b_3 rfl ?_
 exact⟨rfl,grew12 (HG1.out.alloc _) b_28⟩):p:=h
set_option maxRecDepth 100000 in
theorem c_32 {p:Prop} (h:p:=by
 clear x0c x1c x2c x3c x4c x5c x6c x7c x8c x9c x10c x11c zx0 zx1 zx2 zx3 zx4 zx5 zx6 zx7 zx8 zx9 zx10 zx11
 go_wp2_with fail
 obtain⟨q0,q1,q2,q3,q4,q5,q6,q7,q8,q9,q10,q11⟩:=res12 (v0:=.int .i64 i) (v1:=.int .i64 d) (v2:=.int .i64 1) (v3:=.int .i64 u) (v4:=.int .i64 ub.parent) (v5:=.int .i64 bh) (v6:=.int .i64 ub.level) (v7:=.string ub.title) (v8:=.string ub.mark) (v9:=.int .i64 0) (v10:=.int .i64 0) (v11:=.int .i64 0) r0 r1 r2 r3 r4 r5 r6 r7 r8 r9 r10 r11
 refine bodyPost_ret (v:=.tuple #[.agg #[.int .i64 i,.int .i64 d,.int .i64 1,.int .i64 u,.int .i64 ub.parent,.int .i64 bh,.int .i64 ub.level,.string ub.title,.string ub.mark,.int .i64 0,.int .i64 0,.int .i64 0],.int .i64 0]) b_3 rfl ?_
 exact⟨rfl,grew12 HGW.out b_28⟩):p:=h
theorem res12 {W:World} {P:Nat} {v0 v1 v2 v3 v4 v5 v6 v7 v8 v9 v10 v11 x0 x1 x2 x3 x4 x5 x6 x7 x8 x9 x10 x11:Value} (h0:W.cell? ⟨P,0,none⟩=some x0) (h1:W.cell? ⟨P,1,none⟩=some x1) (h2:W.cell? ⟨P,2,none⟩=some x2) (h3:W.cell? ⟨P,3,none⟩=some x3) (h4:W.cell? ⟨P,4,none⟩=some x4) (h5:W.cell? ⟨P,5,none⟩=some x5) (h6:W.cell? ⟨P,6,none⟩=some x6) (h7:W.cell? ⟨P,7,none⟩=some x7) (h8:W.cell? ⟨P,8,none⟩=some x8) (h9:W.cell? ⟨P,9,none⟩=some x9) (h10:W.cell? ⟨P,10,none⟩=some x10) (h11:W.cell? ⟨P,11,none⟩=some x11):((((((((((((W.setCell ⟨P,0,none⟩ v0).setCell ⟨P,1,none⟩ v1).setCell ⟨P,2,none⟩ v2).setCell ⟨P,3,none⟩ v3).setCell ⟨P,4,none⟩ v4).setCell ⟨P,5,none⟩ v5).setCell ⟨P,6,none⟩ v6).setCell ⟨P,7,none⟩ v7).setCell ⟨P,8,none⟩ v8).setCell ⟨P,9,none⟩ v9).setCell ⟨P,10,none⟩ v10).setCell ⟨P,11,none⟩ v11).cell? ⟨P,0,none⟩=some v0∧((((((((((((W.setCell ⟨P,0,none⟩ v0).setCell ⟨P,1,none⟩ v1).setCell ⟨P,2,none⟩ v2).setCell ⟨P,3,none⟩ v3).setCell ⟨P,4,none⟩ v4).setCell ⟨P,5,none⟩ v5).setCell ⟨P,6,none⟩ v6).setCell ⟨P,7,none⟩ v7).setCell ⟨P,8,none⟩ v8).setCell ⟨P,9,none⟩ v9).setCell ⟨P,10,none⟩ v10).setCell ⟨P,11,none⟩ v11).cell? ⟨P,1,none⟩=some v1∧((((((((((((W.setCell ⟨P,0,none⟩ v0).setCell ⟨P,1,none⟩ v1).setCell ⟨P,2,none⟩ v2).setCell ⟨P,3,none⟩ v3).setCell ⟨P,4,none⟩ v4).setCell ⟨P,5,none⟩ v5).setCell ⟨P,6,none⟩ v6).setCell ⟨P,7,none⟩ v7).setCell ⟨P,8,none⟩ v8).setCell ⟨P,9,none⟩ v9).setCell ⟨P,10,none⟩ v10).setCell ⟨P,11,none⟩ v11).cell? ⟨P,2,none⟩=some v2∧((((((((((((W.setCell ⟨P,0,none⟩ v0).setCell ⟨P,1,none⟩ v1).setCell ⟨P,2,none⟩ v2).setCell ⟨P,3,none⟩ v3).setCell ⟨P,4,none⟩ v4).setCell ⟨P,5,none⟩ v5).setCell ⟨P,6,none⟩ v6).setCell ⟨P,7,none⟩ v7).setCell ⟨P,8,none⟩ v8).setCell ⟨P,9,none⟩ v9).setCell ⟨P,10,none⟩ v10).setCell ⟨P,11,none⟩ v11).cell? ⟨P,3,none⟩=some v3∧((((((((((((W.setCell ⟨P,0,none⟩ v0).setCell ⟨P,1,none⟩ v1).setCell ⟨P,2,none⟩ v2).setCell ⟨P,3,none⟩ v3).setCell ⟨P,4,none⟩ v4).setCell ⟨P,5,none⟩ v5).setCell ⟨P,6,none⟩ v6).setCell ⟨P,7,none⟩ v7).setCell ⟨P,8,none⟩ v8).setCell ⟨P,9,none⟩ v9).setCell ⟨P,10,none⟩ v10).setCell ⟨P,11,none⟩ v11).cell? ⟨P,4,none⟩=some v4∧((((((((((((W.setCell ⟨P,0,none⟩ v0).setCell ⟨P,1,none⟩ v1).setCell ⟨P,2,none⟩ v2).setCell ⟨P,3,none⟩ v3).setCell ⟨P,4,none⟩ v4).setCell ⟨P,5,none⟩ v5).setCell ⟨P,6,none⟩ v6).setCell ⟨P,7,none⟩ v7).setCell ⟨P,8,none⟩ v8).setCell ⟨P,9,none⟩ v9).setCell ⟨P,10,none⟩ v10).setCell ⟨P,11,none⟩ v11).cell? ⟨P,5,none⟩=some v5∧((((((((((((W.setCell ⟨P,0,none⟩ v0).setCell ⟨P,1,none⟩ v1).setCell ⟨P,2,none⟩ v2).setCell ⟨P,3,none⟩ v3).setCell ⟨P,4,none⟩ v4).setCell ⟨P,5,none⟩ v5).setCell ⟨P,6,none⟩ v6).setCell ⟨P,7,none⟩ v7).setCell ⟨P,8,none⟩ v8).setCell ⟨P,9,none⟩ v9).setCell ⟨P,10,none⟩ v10).setCell ⟨P,11,none⟩ v11).cell? ⟨P,6,none⟩=some v6∧((((((((((((W.setCell ⟨P,0,none⟩ v0).setCell ⟨P,1,none⟩ v1).setCell ⟨P,2,none⟩ v2).setCell ⟨P,3,none⟩ v3).setCell ⟨P,4,none⟩ v4).setCell ⟨P,5,none⟩ v5).setCell ⟨P,6,none⟩ v6).setCell ⟨P,7,none⟩ v7).setCell ⟨P,8,none⟩ v8).setCell ⟨P,9,none⟩ v9).setCell ⟨P,10,none⟩ v10).setCell ⟨P,11,none⟩ v11).cell? ⟨P,7,none⟩=some v7∧((((((((((((W.setCell ⟨P,0,none⟩ v0).setCell ⟨P,1,none⟩ v1).setCell ⟨P,2,none⟩ v2).setCell ⟨P,3,none⟩ v3).setCell ⟨P,4,none⟩ v4).setCell ⟨P,5,none⟩ v5).setCell ⟨P,6,none⟩ v6).setCell ⟨P,7,none⟩ v7).setCell ⟨P,8,none⟩ v8).setCell ⟨P,9,none⟩ v9).setCell ⟨P,10,none⟩ v10).setCell ⟨P,11,none⟩ v11).cell? ⟨P,8,none⟩=some v8∧((((((((((((W.setCell ⟨P,0,none⟩ v0).setCell ⟨P,1,none⟩ v1).setCell ⟨P,2,none⟩ v2).setCell ⟨P,3,none⟩ v3).setCell ⟨P,4,none⟩ v4).setCell ⟨P,5,none⟩ v5).setCell ⟨P,6,none⟩ v6).setCell ⟨P,7,none⟩ v7).setCell ⟨P,8,none⟩ v8).setCell ⟨P,9,none⟩ v9).setCell ⟨P,10,none⟩ v10).setCell ⟨P,11,none⟩ v11).cell? ⟨P,9,none⟩=some v9∧((((((((((((W.setCell ⟨P,0,none⟩ v0).setCell ⟨P,1,none⟩ v1).setCell ⟨P,2,none⟩ v2).setCell ⟨P,3,none⟩ v3).setCell ⟨P,4,none⟩ v4).setCell ⟨P,5,none⟩ v5).setCell ⟨P,6,none⟩ v6).setCell ⟨P,7,none⟩ v7).setCell ⟨P,8,none⟩ v8).setCell ⟨P,9,none⟩ v9).setCell ⟨P,10,none⟩ v10).setCell ⟨P,11,none⟩ v11).cell? ⟨P,10,none⟩=some v10∧((((((((((((W.setCell ⟨P,0,none⟩ v0).setCell ⟨P,1,none⟩ v1).setCell ⟨P,2,none⟩ v2).setCell ⟨P,3,none⟩ v3).setCell ⟨P,4,none⟩ v4).setCell ⟨P,5,none⟩ v5).setCell ⟨P,6,none⟩ v6).setCell ⟨P,7,none⟩ v7).setCell ⟨P,8,none⟩ v8).setCell ⟨P,9,none⟩ v9).setCell ⟨P,10,none⟩ v10).setCell ⟨P,11,none⟩ v11).cell? ⟨P,11,none⟩=some v11:=by
 refine⟨?_,?_,?_,?_,?_,?_,?_,?_,?_,?_,?_,?_⟩
 ·rw[uV _ _ _ _ b_38,uV _ _ _ _ b_38,uV _ _ _ _ b_38,uV _ _ _ _ b_38,uV _ _ _ _ b_38,uV _ _ _ _ b_38,uV _ _ _ _ b_38,uV _ _ _ _ b_38,uV _ _ _ _ b_38,uV _ _ _ _ b_38,uV _ _ _ _ b_38];exact World.cell?_setCell_same' _ _ _ (by rw[h0];rfl)
 ·rw[uV _ _ _ _ b_38,uV _ _ _ _ b_38,uV _ _ _ _ b_38,uV _ _ _ _ b_38,uV _ _ _ _ b_38,uV _ _ _ _ b_38,uV _ _ _ _ b_38,uV _ _ _ _ b_38,uV _ _ _ _ b_38,uV _ _ _ _ b_38];exact World.cell?_setCell_same' _ _ _ (by rw[uV _ _ _ _ b_38,h1];rfl)
 ·rw[uV _ _ _ _ b_38,uV _ _ _ _ b_38,uV _ _ _ _ b_38,uV _ _ _ _ b_38,uV _ _ _ _ b_38,uV _ _ _ _ b_38,uV _ _ _ _ b_38,uV _ _ _ _ b_38,uV _ _ _ _ b_38];exact World.cell?_setCell_same' _ _ _ (by rw[uV _ _ _ _ b_38,uV _ _ _ _ b_38,h2];rfl)
 ·rw[uV _ _ _ _ b_38,uV _ _ _ _ b_38,uV _ _ _ _ b_38,uV _ _ _ _ b_38,uV _ _ _ _ b_38,uV _ _ _ _ b_38,uV _ _ _ _ b_38,uV _ _ _ _ b_38];exact World.cell?_setCell_same' _ _ _ (by rw[uV _ _ _ _ b_38,uV _ _ _ _ b_38,uV _ _ _ _ b_38,h3];rfl)
 ·rw[uV _ _ _ _ b_38,uV _ _ _ _ b_38,uV _ _ _ _ b_38,uV _ _ _ _ b_38,uV _ _ _ _ b_38,uV _ _ _ _ b_38,uV _ _ _ _ b_38];exact World.cell?_setCell_same' _ _ _ (by rw[uV _ _ _ _ b_38,uV _ _ _ _ b_38,uV _ _ _ _ b_38,uV _ _ _ _ b_38,h4];rfl)
 ·rw[uV _ _ _ _ b_38,uV _ _ _ _ b_38,uV _ _ _ _ b_38,uV _ _ _ _ b_38,uV _ _ _ _ b_38,uV _ _ _ _ b_38];exact World.cell?_setCell_same' _ _ _ (by rw[uV _ _ _ _ b_38,uV _ _ _ _ b_38,uV _ _ _ _ b_38,uV _ _ _ _ b_38,uV _ _ _ _ b_38,h5];rfl)
 ·rw[uV _ _ _ _ b_38,uV _ _ _ _ b_38,uV _ _ _ _ b_38,uV _ _ _ _ b_38,uV _ _ _ _ b_38];exact World.cell?_setCell_same' _ _ _ (by rw[uV _ _ _ _ b_38,uV _ _ _ _ b_38,uV _ _ _ _ b_38,uV _ _ _ _ b_38,uV _ _ _ _ b_38,uV _ _ _ _ b_38,h6];rfl)
 ·rw[uV _ _ _ _ b_38,uV _ _ _ _ b_38,uV _ _ _ _ b_38,uV _ _ _ _ b_38];exact World.cell?_setCell_same' _ _ _ (by rw[uV _ _ _ _ b_38,uV _ _ _ _ b_38,uV _ _ _ _ b_38,uV _ _ _ _ b_38,uV _ _ _ _ b_38,uV _ _ _ _ b_38,uV _ _ _ _ b_38,h7];rfl)
 ·rw[uV _ _ _ _ b_38,uV _ _ _ _ b_38,uV _ _ _ _ b_38];exact World.cell?_setCell_same' _ _ _ (by rw[uV _ _ _ _ b_38,uV _ _ _ _ b_38,uV _ _ _ _ b_38,uV _ _ _ _ b_38,uV _ _ _ _ b_38,uV _ _ _ _ b_38,uV _ _ _ _ b_38,uV _ _ _ _ b_38,h8];rfl)
 ·rw[uV _ _ _ _ b_38,uV _ _ _ _ b_38];exact World.cell?_setCell_same' _ _ _ (by rw[uV _ _ _ _ b_38,uV _ _ _ _ b_38,uV _ _ _ _ b_38,uV _ _ _ _ b_38,uV _ _ _ _ b_38,uV _ _ _ _ b_38,uV _ _ _ _ b_38,uV _ _ _ _ b_38,uV _ _ _ _ b_38,h9];rfl)
 ·rw[uV _ _ _ _ b_38];exact World.cell?_setCell_same' _ _ _ (by rw[uV _ _ _ _ b_38,uV _ _ _ _ b_38,uV _ _ _ _ b_38,uV _ _ _ _ b_38,uV _ _ _ _ b_38,uV _ _ _ _ b_38,uV _ _ _ _ b_38,uV _ _ _ _ b_38,uV _ _ _ _ b_38,uV _ _ _ _ b_38,h10];rfl)
 ·exact World.cell?_setCell_same' _ _ _ (by rw[uV _ _ _ _ b_38,uV _ _ _ _ b_38,uV _ _ _ _ b_38,uV _ _ _ _ b_38,uV _ _ _ _ b_38,uV _ _ _ _ b_38,uV _ _ _ _ b_38,uV _ _ _ _ b_38,uV _ _ _ _ b_38,uV _ _ _ _ b_38,uV _ _ _ _ b_38,h11];rfl)
def opn0:Opn:=⟨0,0,0,0,0,0,0,⟨#[]⟩,⟨#[]⟩,0,0,0⟩
noncomputable def oppR (t:Tr) (o:Opn):Opn × Int:=if (applyR t o).2=0 then(oppO t o,0) else(opn0,(applyR t o).2)
def RetOp (R:Opn × Int) (w:World) (e:Ending) (w':World):Prop:=e=.returned (.tuple #[R.1.agg,.int .i64 R.2])∧Grew w w'
theorem grew12 {w W:World} {P:Nat} {v0 v1 v2 v3 v4 v5 v6 v7 v8 v9 v10 v11:Value} (h:Grew w W) (hp:w.heap.size≤P):Grew w ((((((((((((W.setCell ⟨P,0,none⟩ v0).setCell ⟨P,1,none⟩ v1).setCell ⟨P,2,none⟩ v2).setCell ⟨P,3,none⟩ v3).setCell ⟨P,4,none⟩ v4).setCell ⟨P,5,none⟩ v5).setCell ⟨P,6,none⟩ v6).setCell ⟨P,7,none⟩ v7).setCell ⟨P,8,none⟩ v8).setCell ⟨P,9,none⟩ v9).setCell ⟨P,10,none⟩ v10).setCell ⟨P,11,none⟩ v11):=by
 exact(yZ (p:=⟨P,11,none⟩) (yZ (p:=⟨P,10,none⟩) (yZ (p:=⟨P,9,none⟩) (yZ (p:=⟨P,8,none⟩) (yZ (p:=⟨P,7,none⟩) (yZ (p:=⟨P,6,none⟩) (yZ (p:=⟨P,5,none⟩) (yZ (p:=⟨P,4,none⟩) (yZ (p:=⟨P,3,none⟩) (yZ (p:=⟨P,2,none⟩) (yZ (p:=⟨P,1,none⟩) (yZ (p:=⟨P,0,none⟩) h hp _) hp _) hp _) hp _) hp _) hp _) hp _) hp _) hp _) hp _) hp _) hp _)
theorem opp_blocks (w:World) (t0 t1 t2:TypeId) (ra ba:Value) (o:Opn) (W:World) (g:Grew (((w.alloc (.cells [ra,ba].toArray t0)).alloc (.cells o.cells.toArray t1)).alloc (.cells opn0.cells.toArray t2)) W) :
  (W.cell? ⟨w.heap.size,0,none⟩=some ra∧W.cell? ⟨w.heap.size,1,none⟩=some ba)∧(W.cell? ⟨w.heap.size+1,0,none⟩=some (.int .i64 o.id)∧W.cell? ⟨w.heap.size+1,1,none⟩=some (.int .i64 o.day)∧W.cell? ⟨w.heap.size+1,2,none⟩=some (.int .i64 o.kind)∧W.cell? ⟨w.heap.size+1,3,none⟩=some (.int .i64 o.unit)∧W.cell? ⟨w.heap.size+1,4,none⟩=some (.int .i64 o.parent)∧W.cell? ⟨w.heap.size+1,5,none⟩=some (.int .i64 o.before)∧W.cell? ⟨w.heap.size+1,6,none⟩=some (.int .i64 o.level)∧W.cell? ⟨w.heap.size+1,7,none⟩=some (.string o.title)∧W.cell? ⟨w.heap.size+1,8,none⟩=some (.string o.mark)∧W.cell? ⟨w.heap.size+1,9,none⟩=some (.int .i64 o.office)∧W.cell? ⟨w.heap.size+1,10,none⟩=some (.int .i64 o.acc)∧W.cell? ⟨w.heap.size+1,11,none⟩=some (.int .i64 o.num))∧(W.cell? ⟨w.heap.size+1+1,0,none⟩=some (.int .i64 0)∧W.cell? ⟨w.heap.size+1+1,1,none⟩=some (.int .i64 0)∧W.cell? ⟨w.heap.size+1+1,2,none⟩=some (.int .i64 0)∧W.cell? ⟨w.heap.size+1+1,3,none⟩=some (.int .i64 0)∧W.cell? ⟨w.heap.size+1+1,4,none⟩=some (.int .i64 0)∧W.cell? ⟨w.heap.size+1+1,5,none⟩=some (.int .i64 0)∧W.cell? ⟨w.heap.size+1+1,6,none⟩=some (.int .i64 0)∧W.cell? ⟨w.heap.size+1+1,7,none⟩=some (.string ⟨#[]⟩)∧W.cell? ⟨w.heap.size+1+1,8,none⟩=some (.string ⟨#[]⟩)∧W.cell? ⟨w.heap.size+1+1,9,none⟩=some (.int .i64 0)∧W.cell? ⟨w.heap.size+1+1,10,none⟩=some (.int .i64 0)∧W.cell? ⟨w.heap.size+1+1,11,none⟩=some (.int .i64 0))∧(∀ j,W.frozen? ⟨w.heap.size+1+1,j,none⟩=false):=by
 have g2:Grew ((w.alloc (.cells [ra,ba].toArray t0)).alloc (.cells o.cells.toArray t1)) W:=((uX _).alloc _).trans g
 have g1:Grew (w.alloc (.cells [ra,ba].toArray t0)) W:=((uX _).alloc _).trans g2
 have a:=opn_all o g2
 have r:=opn_all opn0 g
 rw[size_allocB] at a
 rw[size_allocB,size_allocB] at r
 have z:∀ j,W.frozen? ⟨w.heap.size+1+1,j,none⟩=false:=fun j=>by
  have:=new_frz g j
  rw[size_allocB,size_allocB] at this
  exact this
 exact⟨⟨yQ g1 0 _ rfl,yQ g1 1 _ rfl⟩,a,r,z⟩
set_option maxHeartbeats 8000000 in
set_option maxRecDepth 100000 in
theorem rOppNo (t:Tr) (o:Opn) (rv bv:Value) (w:World) (hE:Env w) (hr:SlI w rv t.roots) (hv:SlBr w bv t.brs) (hf:FewBr t.brs) (hrl:t.roots.length≤1000000) (hkw:(Lit.int .i64 o.kind).wf=true) (hne:(applyR t o).2≠0) :
  Calls Tryz.prog 23 #[.agg #[rv,bv],o.agg] w (RetOp (opn0,(applyR t o).2) w):=by
 have KA:=uZ (fun W (hW:Grew w W)=>rApply t o rv bv W (hE.mono hW) (hr.mono hW) (hv.mono hW) hf hrl hkw)
 obtain⟨Ar,cr,rfl,-⟩:=hr.open_
 obtain⟨Ab,cb,rfl,-⟩:=hv.open_
 generalize applyR t o=RES at KA hne ⊢
 obtain⟨RT,n⟩:=RES
 dsimp only at hne ⊢
 have hn2:(n != 0)=true:=by simpa using hne
 have HB:=uZ (fun W=>opp_blocks w 35 25 25 (.slice Ar t.roots.length cr) (.slice Ab t.brs.length cb) o W)
 clear hE hr hv hf hrl hkw hne
 obtain⟨i,d,k,u,p,b,l,tt,m,x9,x10,x11⟩:=o
 unfold Opn.agg at KA ⊢
 dsimp only at KA ⊢
 go_enter Tryz.func23,Tryz.ntmps23
 exact c_26
theorem opp_ok {t:Tr} {o:Opn} (h:(applyR t o).2=0):RightT t∧(o.kind=1∨o.kind=2∨o.kind=3∨o.kind=4∨o.kind=5)∧(o.kind=1→brFind t.brs o.unit=none)∧(o.kind≠1→∃ u,brFind t.brs o.unit=some u):=by
 have hR:=(applyR_right h).1
 by_cases hoff:¬ RightT t∨formedO o=false∨o.kind=6
 ·rw[applyR_off hoff] at h
  cases h
 have hf:formedO o=true:=by
  cases hh:formedO o
  ·exact absurd (.inr (.inl hh)) hoff
  ·rfl
 have h6:o.kind≠6:=fun e=>hoff (.inr (.inr e))
 have hfa:faultO t o=0:=by
  rw[applyR_on hR hf h6] at h
  by_cases hz:faultO t o≠0
  ·rw[if_pos hz] at h
   exact absurd h hz
  ·exact Classical.not_not.1 hz
 have hk:=(formed_facts hf).kind
 refine⟨hR,by omega,fun h1=>?_,fun h1=>?_⟩
 ·unfold faultO faultC at hfa
  rw[if_pos h1] at hfa
  cases hb:brFind t.brs o.unit with
  | none=>rfl
  | some u =>
   rw[hb] at hfa
   simp at hfa
 ·cases hb:brFind t.brs o.unit with
  | some u=>exact⟨u,rfl⟩
  | none =>
   exfalso
   unfold faultO faultM faultR faultL at hfa
   rw[if_neg h1,hb] at hfa
   dsimp only at hfa
   split at hfa
   ·omega
   ·split at hfa<;>omega
theorem adr_ne {a b i j:Nat} (h:a≠b):(⟨a,i,none⟩:Addr)≠⟨b,j,none⟩:=fun e=>h (congrArg Addr.block e)
theorem opp_keep {W:World} {T U X j:Nat} {x t0 t1 u0 u1 u2 u3 u4:Value} (hT:T≠X) (hU:U≠X) (h:W.cell? ⟨T,0,none⟩=some t0∧W.cell? ⟨T,1,none⟩=some t1∧W.cell? ⟨U,0,none⟩=some u0∧W.cell? ⟨U,1,none⟩=some u1∧W.cell? ⟨U,2,none⟩=some u2∧W.cell? ⟨U,3,none⟩=some u3∧W.cell? ⟨U,4,none⟩=some u4):(W.setCell ⟨X,j,none⟩ x).cell? ⟨T,0,none⟩=some t0∧(W.setCell ⟨X,j,none⟩ x).cell? ⟨T,1,none⟩=some t1∧(W.setCell ⟨X,j,none⟩ x).cell? ⟨U,0,none⟩=some u0∧(W.setCell ⟨X,j,none⟩ x).cell? ⟨U,1,none⟩=some u1∧(W.setCell ⟨X,j,none⟩ x).cell? ⟨U,2,none⟩=some u2∧(W.setCell ⟨X,j,none⟩ x).cell? ⟨U,3,none⟩=some u3∧(W.setCell ⟨X,j,none⟩ x).cell? ⟨U,4,none⟩=some u4:=by
 obtain⟨h0,h1,h2,h3,h4,h5,h6⟩:=h
 refine⟨?_,?_,?_,?_,?_,?_,?_⟩<;>exact(uV _ _ _ _ (by first|exact adr_ne hT|exact adr_ne hT.symm|exact adr_ne hU|exact adr_ne hU.symm)).trans b_35
theorem opp_grow {W W2:World} {T U:Nat} {t0 t1 u0 u1 u2 u3 u4:Value} (h:W.cell? ⟨T,0,none⟩=some t0∧W.cell? ⟨T,1,none⟩=some t1∧W.cell? ⟨U,0,none⟩=some u0∧W.cell? ⟨U,1,none⟩=some u1∧W.cell? ⟨U,2,none⟩=some u2∧W.cell? ⟨U,3,none⟩=some u3∧W.cell? ⟨U,4,none⟩=some u4) (g:Grew W W2):W2.cell? ⟨T,0,none⟩=some t0∧W2.cell? ⟨T,1,none⟩=some t1∧W2.cell? ⟨U,0,none⟩=some u0∧W2.cell? ⟨U,1,none⟩=some u1∧W2.cell? ⟨U,2,none⟩=some u2∧W2.cell? ⟨U,3,none⟩=some u3∧W2.cell? ⟨U,4,none⟩=some u4:=by
 obtain⟨h0,h1,h2,h3,h4,h5,h6⟩:=h
 exact⟨uQ g h0,uQ g h1,uQ g h2,uQ g h3,uQ g h4,uQ g h5,uQ g h6⟩
set_option maxHeartbeats 16000000 in
set_option maxRecDepth 100000 in
theorem rOpp1 (t:Tr) (o:Opn) (rv bv:Value) (w:World) (hE:Env w) (hr:SlI w rv t.roots) (hv:SlBr w bv t.brs) (hf:FewBr t.brs) (hrl:t.roots.length≤1000000) (hkw:(Lit.int .i64 o.kind).wf=true) (hz:(applyR t o).2=0) (hk:o.kind=1) (ho:brFind t.brs o.unit=none) :
  Calls Tryz.prog 23 #[.agg #[rv,bv],o.agg] w (RetOp (oppO t o,0) w):=by
 have KA:=uZ (fun W (hW:Grew w W)=>rApply t o rv bv W (hE.mono hW) (hr.mono hW) (hv.mono hW) hf hrl hkw)
 have kF:=fun W (hW:Grew w W)=>tFind t.brs o.unit rv bv W (hv.mono hW)
 rw[ho] at kF
 have hres:oppO t o=⟨o.id,o.day,5,o.unit,0,0,0,⟨#[]⟩,⟨#[]⟩,0,0,0⟩:=by
  unfold oppO
  rw[ho]
 rw[hres]
 obtain⟨Ar,cr,rfl,-⟩:=hr.open_
 obtain⟨Ab,cb,rfl,-⟩:=hv.open_
 generalize applyR t o=RES at KA hz
 obtain⟨RT,n⟩:=RES
 dsimp only at hz
 subst hz
 have HB:=uZ (fun W=>opp_blocks w 35 25 25 (.slice Ar t.roots.length cr) (.slice Ab t.brs.length cb) o W)
 clear hE hr hv hf hrl hkw ho hres
 obtain⟨i,d,k,u,p,b,l,tt,m,x9,x10,x11⟩:=o
 dsimp only at hk
 subst hk
 unfold TFindEnd at kF
 unfold Opn.agg at KA ⊢
 dsimp only [Option.getD_some,Option.getD_none,Option.isSome_some,Option.isSome_none,br0] at KA kF ⊢
 have KF:=uZ kF
 clear kF
 go_enter Tryz.func23,Tryz.ntmps23
 exact c_16
set_option maxHeartbeats 16000000 in
set_option maxRecDepth 100000 in
theorem rOpp3 (t:Tr) (o:Opn) (rv bv:Value) (w:World) (hE:Env w) (hr:SlI w rv t.roots) (hv:SlBr w bv t.brs) (hf:FewBr t.brs) (hrl:t.roots.length≤1000000) (hkw:(Lit.int .i64 o.kind).wf=true) (hz:(applyR t o).2=0) (hk:o.kind=3) (ub:Br) (ho:brFind t.brs o.unit=some ub) :
  Calls Tryz.prog 23 #[.agg #[rv,bv],o.agg] w (RetOp (oppO t o,0) w):=by
 have KA:=uZ (fun W (hW:Grew w W)=>rApply t o rv bv W (hE.mono hW) (hr.mono hW) (hv.mono hW) hf hrl hkw)
 have kF:=fun W (hW:Grew w W)=>tFind t.brs o.unit rv bv W (hv.mono hW)
 rw[ho] at kF
 have hres:oppO t o=⟨o.id,o.day,3,o.unit,0,0,0,ub.title,⟨#[]⟩,0,0,0⟩:=by
  unfold oppO
  rw[ho]
  dsimp only
  rw[if_neg b_37,if_pos hk]
 rw[hres]
 obtain⟨Ar,cr,rfl,-⟩:=hr.open_
 obtain⟨Ab,cb,rfl,-⟩:=hv.open_
 generalize applyR t o=RES at KA hz
 obtain⟨RT,n⟩:=RES
 dsimp only at hz
 subst hz
 have HB:=uZ (fun W=>opp_blocks w 35 25 25 (.slice Ar t.roots.length cr) (.slice Ab t.brs.length cb) o W)
 clear hE hr hv hf hrl hkw ho hres
 obtain⟨i,d,k,u,p,b,l,tt,m,x9,x10,x11⟩:=o
 dsimp only at hk
 subst hk
 unfold TFindEnd at kF
 unfold Opn.agg at KA ⊢
 dsimp only [Option.getD_some,Option.getD_none,Option.isSome_some,Option.isSome_none,br0] at KA kF ⊢
 have KF:=uZ kF
 clear kF
 go_enter Tryz.func23,Tryz.ntmps23
 exact c_12
set_option maxHeartbeats 16000000 in
set_option maxRecDepth 100000 in
theorem rOpp4 (t:Tr) (o:Opn) (rv bv:Value) (w:World) (hE:Env w) (hr:SlI w rv t.roots) (hv:SlBr w bv t.brs) (hf:FewBr t.brs) (hrl:t.roots.length≤1000000) (hkw:(Lit.int .i64 o.kind).wf=true) (hz:(applyR t o).2=0) (hk:o.kind=4) (ub:Br) (ho:brFind t.brs o.unit=some ub) :
  Calls Tryz.prog 23 #[.agg #[rv,bv],o.agg] w (RetOp (oppO t o,0) w):=by
 have KA:=uZ (fun W (hW:Grew w W)=>rApply t o rv bv W (hE.mono hW) (hr.mono hW) (hv.mono hW) hf hrl hkw)
 have kF:=fun W (hW:Grew w W)=>tFind t.brs o.unit rv bv W (hv.mono hW)
 rw[ho] at kF
 have hres:oppO t o=⟨o.id,o.day,4,o.unit,0,0,0,⟨#[]⟩,ub.mark,0,0,0⟩:=by
  unfold oppO
  rw[ho]
  dsimp only
  rw[if_neg b_37,if_neg b_37,if_pos hk]
 rw[hres]
 obtain⟨Ar,cr,rfl,-⟩:=hr.open_
 obtain⟨Ab,cb,rfl,-⟩:=hv.open_
 generalize applyR t o=RES at KA hz
 obtain⟨RT,n⟩:=RES
 dsimp only at hz
 subst hz
 have HB:=uZ (fun W=>opp_blocks w 35 25 25 (.slice Ar t.roots.length cr) (.slice Ab t.brs.length cb) o W)
 clear hE hr hv hf hrl hkw ho hres
 obtain⟨i,d,k,u,p,b,l,tt,m,x9,x10,x11⟩:=o
 dsimp only at hk
 subst hk
 unfold TFindEnd at kF
 unfold Opn.agg at KA ⊢
 dsimp only [Option.getD_some,Option.getD_none,Option.isSome_some,Option.isSome_none,br0] at KA kF ⊢
 have KF:=uZ kF
 clear kF
 go_enter Tryz.func23,Tryz.ntmps23
 exact c_13
set_option maxHeartbeats 16000000 in
set_option maxRecDepth 100000 in
theorem rOpp2 (t:Tr) (o:Opn) (rv bv:Value) (w:World) (hE:Env w) (hr:SlI w rv t.roots) (hv:SlBr w bv t.brs) (hf:FewBr t.brs) (hrl:t.roots.length≤1000000) (hkw:(Lit.int .i64 o.kind).wf=true) (hz:(applyR t o).2=0) (hk:o.kind=2) (ub:Br) (ho:brFind t.brs o.unit=some ub) :
  Calls Tryz.prog 23 #[.agg #[rv,bv],o.agg] w (RetOp (oppO t o,0) w):=by
 have KA:=uZ (fun W (hW:Grew w W)=>rApply t o rv bv W (hE.mono hW) (hr.mono hW) (hv.mono hW) hf hrl hkw)
 have kF:=fun W (hW:Grew w W)=>tFind t.brs o.unit rv bv W (hv.mono hW)
 rw[ho] at kF
 have hub:=find_in ho
 have kB:=fun W (hW:Grew w W)=>rBehind t ub rv bv W (hE.mono hW) (hr.mono hW) (hv.mono hW) hf hrl (opp_ok hz).1 hub.1
 rw[hub.2] at kB
 have hres:oppO t o=⟨o.id,o.day,2,o.unit,ub.parent,behindF o.unit (childs t ub.parent),0,⟨#[]⟩,⟨#[]⟩,0,0,0⟩:=by
  unfold oppO
  rw[ho]
  dsimp only
  rw[if_pos hk]
 rw[hres]
 obtain⟨Ar,cr,rfl,-⟩:=hr.open_
 obtain⟨Ab,cb,rfl,-⟩:=hv.open_
 generalize applyR t o=RES at KA hz
 obtain⟨RT,n⟩:=RES
 dsimp only at hz
 subst hz
 generalize behindF o.unit (childs t ub.parent)=bh at kB ⊢
 have HB:=uZ (fun W=>opp_blocks w 35 25 25 (.slice Ar t.roots.length cr) (.slice Ab t.brs.length cb) o W)
 clear hE hr hv hf hrl hkw ho hres hub
 obtain⟨i,d,k,u,p,b,l,tt,m,x9,x10,x11⟩:=o
 dsimp only at hk
 subst hk
 unfold TFindEnd at kF
 unfold unitV at kB
 unfold Opn.agg at KA ⊢
 dsimp only [Option.getD_some,Option.getD_none,Option.isSome_some,Option.isSome_none,br0] at KA kF kB ⊢
 have KF:=uZ kF
 clear kF
 have KBh:=uZ kB
 clear kB
 go_enter Tryz.func23,Tryz.ntmps23
 exact c_4
set_option maxHeartbeats 16000000 in
set_option maxRecDepth 100000 in
theorem rOpp5 (t:Tr) (o:Opn) (rv bv:Value) (w:World) (hE:Env w) (hr:SlI w rv t.roots) (hv:SlBr w bv t.brs) (hf:FewBr t.brs) (hrl:t.roots.length≤1000000) (hkw:(Lit.int .i64 o.kind).wf=true) (hz:(applyR t o).2=0) (hk:o.kind=5) (ub:Br) (ho:brFind t.brs o.unit=some ub) :
  Calls Tryz.prog 23 #[.agg #[rv,bv],o.agg] w (RetOp (oppO t o,0) w):=by
 have KA:=uZ (fun W (hW:Grew w W)=>rApply t o rv bv W (hE.mono hW) (hr.mono hW) (hv.mono hW) hf hrl hkw)
 have kF:=fun W (hW:Grew w W)=>tFind t.brs o.unit rv bv W (hv.mono hW)
 rw[ho] at kF
 have hub:=find_in ho
 have kB:=fun W (hW:Grew w W)=>rBehind t ub rv bv W (hE.mono hW) (hr.mono hW) (hv.mono hW) hf hrl (opp_ok hz).1 hub.1
 rw[hub.2] at kB
 have hres:oppO t o=⟨o.id,o.day,1,o.unit,ub.parent,behindF o.unit (childs t ub.parent),ub.level,ub.title,ub.mark,0,0,0⟩:=by
  unfold oppO
  rw[ho]
  dsimp only
  rw[if_neg b_37,if_neg b_37,if_neg b_37]
 rw[hres]
 obtain⟨Ar,cr,rfl,-⟩:=hr.open_
 obtain⟨Ab,cb,rfl,-⟩:=hv.open_
 generalize applyR t o=RES at KA hz
 obtain⟨RT,n⟩:=RES
 dsimp only at hz
 subst hz
 generalize behindF o.unit (childs t ub.parent)=bh at kB ⊢
 have HB:=uZ (fun W=>opp_blocks w 35 25 25 (.slice Ar t.roots.length cr) (.slice Ab t.brs.length cb) o W)
 clear hE hr hv hf hrl hkw ho hres hub
 obtain⟨i,d,k,u,p,b,l,tt,m,x9,x10,x11⟩:=o
 dsimp only at hk
 subst hk
 unfold TFindEnd at kF
 unfold unitV at kB
 unfold Opn.agg at KA ⊢
 dsimp only [Option.getD_some,Option.getD_none,Option.isSome_some,Option.isSome_none,br0] at KA kF kB ⊢
 have KF:=uZ kF
 clear kF
 have KBh:=uZ kB
 clear kB
 go_enter Tryz.func23,Tryz.ntmps23
 go_wp2_with fail
 refine(KA.out _ b_29).mono ?_
 rintro e w1 ⟨rv1,bv1,rfl,ht1,g1⟩
 obtain⟨A1,k1,rfl,-⟩:=SlI.open_ ht1.1
 obtain⟨A2,k2,rfl,-⟩:=ht1.2.open_
 obtain⟨⟨y0,y1⟩,⟨a0,a1,a2,a3,a4,a5,a6,a7,a8,a9,a10,a11⟩,⟨_,_,_,_,_,_,_,_,_,_,_,_⟩,_⟩:=HB.out (w1.alloc (.cells #[.slice A1 RT.roots.length k1,.slice A2 RT.brs.length k2] 35)) (g1.alloc _)
 have HG1:=uZ (show Grew w (w1.alloc (.cells #[.slice A1 RT.roots.length k1,.slice A2 RT.brs.length k2] 35)) from((((uX w).alloc _).alloc _).alloc _ |>.trans g1).alloc _)
 have HG3:=uZ (g1.alloc (.cells #[.slice A1 RT.roots.length k1,.slice A2 RT.brs.length k2] 35))
 clear g1 ht1
 dsimp only
 go_wp2_with fail
 refine(KF.out _ HG1.out).mono ?_
 rintro e w2 ⟨rfl,g2⟩
 replace HG3:=uZ (HG3.out.trans g2)
 replace HG1:=uZ (HG1.out.trans g2)
 clear g2 y0 y1 a0 a1 a2 a3 a4 a5 a6 a7 a8 a9 a10 a11
 obtain⟨⟨_,_⟩,⟨a0,a1,a2,a3,a4,a5,a6,a7,a8,a9,a10,a11⟩,⟨_,_,_,_,_,_,_,_,_,_,_,_⟩,_⟩:=HB.out (w2.alloc (.cells #[.int .i64 ub.id,.int .i64 ub.parent,.int .i64 ub.level,.string ub.title,.string ub.mark] 51)) (HG3.out.alloc _)
 have c2:=(HB.out ((w2.alloc (.cells #[.int .i64 ub.id,.int .i64 ub.parent,.int .i64 ub.level,.string ub.title,.string ub.mark] 51)).alloc (.cells #[.int .i64 i,.int .i64 d,.int .i64 5,.int .i64 u,.int .i64 0,.int .i64 0,.int .i64 0,.string ⟨#[]⟩,.string ⟨#[]⟩,.int .i64 0,.int .i64 0,.int .i64 0] 25)) ((HG3.out.alloc _).alloc _)).2.1.2.2.1
 dsimp only
 have HG4:=uZ (show Grew w ((w2.alloc (.cells #[.int .i64 ub.id,.int .i64 ub.parent,.int .i64 ub.level,.string ub.title,.string ub.mark] 51)).alloc (.cells #[.int .i64 i,.int .i64 d,.int .i64 5,.int .i64 u,.int .i64 0,.int .i64 0,.int .i64 0,.string ⟨#[]⟩,.string ⟨#[]⟩,.int .i64 0,.int .i64 0,.int .i64 0] 25)).drew from((HG1.out.alloc _).alloc _).drew)
 have HG5:=uZ ((((HG3.out.alloc (.cells #[.int .i64 ub.id,.int .i64 ub.parent,.int .i64 ub.level,.string ub.title,.string ub.mark] 51)).alloc (.cells #[.int .i64 i,.int .i64 d,.int .i64 5,.int .i64 u,.int .i64 0,.int .i64 0,.int .i64 0,.string ⟨#[]⟩,.string ⟨#[]⟩,.int .i64 0,.int .i64 0,.int .i64 0] 25))).drew)
 obtain⟨y0,y1⟩:=(HB.out ((w2.alloc (.cells #[.int .i64 ub.id,.int .i64 ub.parent,.int .i64 ub.level,.string ub.title,.string ub.mark] 51)).alloc (.cells #[.int .i64 i,.int .i64 d,.int .i64 5,.int .i64 u,.int .i64 0,.int .i64 0,.int .i64 0,.string ⟨#[]⟩,.string ⟨#[]⟩,.int .i64 0,.int .i64 0,.int .i64 0] 25)) ((HG3.out.alloc _).alloc _)).1
 have he:=fun j v (hj:([.int .i64 ub.id,.int .i64 ub.parent,.int .i64 ub.level,.string ub.title,.string ub.mark]:List Value)[j]? = some v)=>yQ (w:=w2) (t:=51) (show Grew _ ((w2.alloc (.cells #[.int .i64 ub.id,.int .i64 ub.parent,.int .i64 ub.level,.string ub.title,.string ub.mark] 51)).alloc (.cells #[.int .i64 i,.int .i64 d,.int .i64 5,.int .i64 u,.int .i64 0,.int .i64 0,.int .i64 0,.string ⟨#[]⟩,.string ⟨#[]⟩,.int .i64 0,.int .i64 0,.int .i64 0] 25)) from(uX _).alloc _) j v hj
 obtain⟨e0,e1,e2,e3,e4⟩:=(⟨he 0 _ rfl,he 1 _ rfl,he 2 _ rfl,he 3 _ rfl,he 4 _ rfl⟩:_∧_∧_∧_∧_)
 clear he
 have HX:=uZ (fun W (g:Grew ((w2.alloc (.cells #[.int .i64 ub.id,.int .i64 ub.parent,.int .i64 ub.level,.string ub.title,.string ub.mark] 51)).alloc (.cells #[.int .i64 i,.int .i64 d,.int .i64 5,.int .i64 u,.int .i64 0,.int .i64 0,.int .i64 0,.string ⟨#[]⟩,.string ⟨#[]⟩,.int .i64 0,.int .i64 0,.int .i64 0] 25)).drew W)=>(show(W.cell? ⟨w2.heap.size+1,0,none⟩=some (.int .i64 i)∧W.cell? ⟨w2.heap.size+1,1,none⟩=some (.int .i64 d)∧W.cell? ⟨w2.heap.size+1,2,none⟩=some (.int .i64 5)∧W.cell? ⟨w2.heap.size+1,3,none⟩=some (.int .i64 u)∧W.cell? ⟨w2.heap.size+1,4,none⟩=some (.int .i64 0)∧W.cell? ⟨w2.heap.size+1,5,none⟩=some (.int .i64 0)∧W.cell? ⟨w2.heap.size+1,6,none⟩=some (.int .i64 0)∧W.cell? ⟨w2.heap.size+1,7,none⟩=some (.string ⟨#[]⟩)∧W.cell? ⟨w2.heap.size+1,8,none⟩=some (.string ⟨#[]⟩)∧W.cell? ⟨w2.heap.size+1,9,none⟩=some (.int .i64 0)∧W.cell? ⟨w2.heap.size+1,10,none⟩=some (.int .i64 0)∧W.cell? ⟨w2.heap.size+1,11,none⟩=some (.int .i64 0))∧(∀ j,W.frozen? ⟨w2.heap.size+1,j,none⟩=false) from by
  have hx:=fun j v hj=>yQ (w:=(w2.alloc (.cells #[.int .i64 ub.id,.int .i64 ub.parent,.int .i64 ub.level,.string ub.title,.string ub.mark] 51))) (cs:=[.int .i64 i,.int .i64 d,.int .i64 5,.int .i64 u,.int .i64 0,.int .i64 0,.int .i64 0,.string ⟨#[]⟩,.string ⟨#[]⟩,.int .i64 0,.int .i64 0,.int .i64 0]) (t:=25) ((uX _).drew.trans g) j v hj
  have hz:=fun j=>new_frz (w:=(w2.alloc (.cells #[.int .i64 ub.id,.int .i64 ub.parent,.int .i64 ub.level,.string ub.title,.string ub.mark] 51))) (cs:=[.int .i64 i,.int .i64 d,.int .i64 5,.int .i64 u,.int .i64 0,.int .i64 0,.int .i64 0,.string ⟨#[]⟩,.string ⟨#[]⟩,.int .i64 0,.int .i64 0,.int .i64 0]) (t:=25) ((uX _).drew.trans g) j
  rw[size_allocB] at hx hz
  exact⟨⟨hx 0 _ rfl,hx 1 _ rfl,hx 2 _ rfl,hx 3 _ rfl,hx 4 _ rfl,hx 5 _ rfl,hx 6 _ rfl,hx 7 _ rfl,hx 8 _ rfl,hx 9 _ rfl,hx 10 _ rfl,hx 11 _ rfl⟩,hz⟩))
 go_wp2_with fail
 have HS0:=uZ (⟨y0,y1,e0,e1,e2,e3,e4⟩:_∧_∧_∧_∧_∧_∧_)
 have HT9:RowKit.Hid (w.heap.size≠w2.heap.size+1):=by
  have:=HG1.out.size
  show w.heap.size≠w2.heap.size+1
  omega
 have HU9:RowKit.Hid (w2.heap.size≠w2.heap.size+1):=by
  show w2.heap.size≠w2.heap.size+1
  omega
 clear y0 y1 e0 e1 e2 e3 e4
 go_region_held3 (fun W=>W.cell? ⟨w.heap.size,0,none⟩=some (.slice Ar t.roots.length cr)∧W.cell? ⟨w.heap.size,1,none⟩=some (.slice Ab t.brs.length cb)∧W.cell? ⟨w2.heap.size,0,none⟩=some (.int .i64 ub.id)∧W.cell? ⟨w2.heap.size,1,none⟩=some (.int .i64 ub.parent)∧W.cell? ⟨w2.heap.size,2,none⟩=some (.int .i64 ub.level)∧W.cell? ⟨w2.heap.size,3,none⟩=some (.string ub.title)∧W.cell? ⟨w2.heap.size,4,none⟩=some (.string ub.mark)) (first|((repeat (refine opp_keep HT9.out HU9.out ?_));exact HS0.out)|((repeat (refine opp_keep HT9.out HU9.out ?_));exact opp_grow HS0.out (by repeat (first|exact HGB.out|exact uX _|refine uJ ?_)))) (((first|go_at_call 61|go_at_call 63);refine(KBh.out _ HG4.out).mono ?_;rintro e wb ⟨rfl,gb⟩;obtain⟨⟨x0c,x1c,x2c,x3c,x4c,x5c,x6c,x7c,x8c,x9c,x10c,x11c⟩,zx⟩:=HX.out wb gb;have zx0:=zx 0;have zx1:=zx 1;have zx2:=zx 2;have zx3:=zx 3;have zx4:=zx 4;have zx5:=zx 5;have zx6:=zx 6;have zx7:=zx 7;have zx8:=zx 8;have zx9:=zx 9;have zx10:=zx 10;have zx11:=zx 11;have HGB:=uZ (show Grew ((w2.alloc (.cells #[.int .i64 ub.id,.int .i64 ub.parent,.int .i64 ub.level,.string ub.title,.string ub.mark] 51)).alloc (.cells #[.int .i64 i,.int .i64 d,.int .i64 5,.int .i64 u,.int .i64 0,.int .i64 0,.int .i64 0,.string ⟨#[]⟩,.string ⟨#[]⟩,.int .i64 0,.int .i64 0,.int .i64 0] 25)) wb from(uX _).drew.trans gb);clear gb zx;dsimp only))
 have HGF:=uZ (show Grew (((w.alloc (.cells #[.slice Ar t.roots.length cr,.slice Ab t.brs.length cb] 35)).alloc (.cells (⟨i,d,5,u,p,b,l,tt,m,x9,x10,x11⟩:Opn).cells.toArray 25)).alloc (.cells opn0.cells.toArray 25)) ((((((wb.setCell ⟨w2.heap.size+1,2,none⟩ (.int .i64 1)).setCell ⟨w2.heap.size+1,4,none⟩ (.int .i64 ub.parent)).setCell ⟨w2.heap.size+1,5,none⟩ (.int .i64 bh)).setCell ⟨w2.heap.size+1,6,none⟩ (.int .i64 ub.level)).setCell ⟨w2.heap.size+1,7,none⟩ (.string ub.title)).setCell ⟨w2.heap.size+1,8,none⟩ (.string ub.mark)) from(((((((((HG3.out.alloc _).alloc _).trans HGB.out).setCell b_23 _).setCell b_23 _).setCell b_23 _).setCell b_23 _).setCell b_23 _).setCell b_23 _))
 have HGW:=uZ (show Grew w ((((((wb.setCell ⟨w2.heap.size+1,2,none⟩ (.int .i64 1)).setCell ⟨w2.heap.size+1,4,none⟩ (.int .i64 ub.parent)).setCell ⟨w2.heap.size+1,5,none⟩ (.int .i64 bh)).setCell ⟨w2.heap.size+1,6,none⟩ (.int .i64 ub.level)).setCell ⟨w2.heap.size+1,7,none⟩ (.string ub.title)).setCell ⟨w2.heap.size+1,8,none⟩ (.string ub.mark)) from((((uX w).alloc _).alloc _).alloc _).trans HGF.out)
 obtain⟨_,_,⟨r0,r1,r2,r3,r4,r5,r6,r7,r8,r9,r10,r11⟩,z⟩:=HB.out _ HGF.out
 have z0:=z 0
 have z1:=z 1
 have z2:=z 2
 have z3:=z 3
 have z4:=z 4
 have z5:=z 5
 have z6:=z 6
 have z7:=z 7
 have z8:=z 8
 have z9:=z 9
 have z10:=z 10
 have z11:=z 11
 clear z
 obtain⟨WG,hWG⟩:∃ W,W=((((((wb.setCell ⟨w2.heap.size+1,2,none⟩ (.int .i64 1)).setCell ⟨w2.heap.size+1,4,none⟩ (.int .i64 ub.parent)).setCell ⟨w2.heap.size+1,5,none⟩ (.int .i64 bh)).setCell ⟨w2.heap.size+1,6,none⟩ (.int .i64 ub.level)).setCell ⟨w2.heap.size+1,7,none⟩ (.string ub.title)).setCell ⟨w2.heap.size+1,8,none⟩ (.string ub.mark)):=⟨_,rfl⟩
 have y0c:WG.cell? ⟨w2.heap.size+1,0,none⟩=some (.int .i64 i):=by rw[hWG];go_simp
 have y1c:WG.cell? ⟨w2.heap.size+1,1,none⟩=some (.int .i64 d):=by rw[hWG];go_simp
 have y2c:WG.cell? ⟨w2.heap.size+1,2,none⟩=some (.int .i64 1):=by rw[hWG];go_simp
 have y3c:WG.cell? ⟨w2.heap.size+1,3,none⟩=some (.int .i64 u):=by rw[hWG];go_simp
 have y4c:WG.cell? ⟨w2.heap.size+1,4,none⟩=some (.int .i64 ub.parent):=by rw[hWG];go_simp
 have y5c:WG.cell? ⟨w2.heap.size+1,5,none⟩=some (.int .i64 bh):=by rw[hWG];go_simp
 have y6c:WG.cell? ⟨w2.heap.size+1,6,none⟩=some (.int .i64 ub.level):=by rw[hWG];go_simp
 have y7c:WG.cell? ⟨w2.heap.size+1,7,none⟩=some (.string ub.title):=by rw[hWG];go_simp
 have y8c:WG.cell? ⟨w2.heap.size+1,8,none⟩=some (.string ub.mark):=by rw[hWG];go_simp
 have y9c:WG.cell? ⟨w2.heap.size+1,9,none⟩=some (.int .i64 0):=by rw[hWG];go_simp
 have y10c:WG.cell? ⟨w2.heap.size+1,10,none⟩=some (.int .i64 0):=by rw[hWG];go_simp
 have y11c:WG.cell? ⟨w2.heap.size+1,11,none⟩=some (.int .i64 0):=by rw[hWG];go_simp
 rw[hWG] at y0c y1c y2c y3c y4c y5c y6c y7c y8c y9c y10c y11c
 clear hWG WG
 generalize ((((((wb.setCell ⟨w2.heap.size+1,2,none⟩ (.int .i64 1)).setCell ⟨w2.heap.size+1,4,none⟩ (.int .i64 ub.parent)).setCell ⟨w2.heap.size+1,5,none⟩ (.int .i64 bh)).setCell ⟨w2.heap.size+1,6,none⟩ (.int .i64 ub.level)).setCell ⟨w2.heap.size+1,7,none⟩ (.string ub.title)).setCell ⟨w2.heap.size+1,8,none⟩ (.string ub.mark))=WF at HGF HGW r0 r1 r2 r3 r4 r5 r6 r7 r8 r9 r10 r11 z0 z1 z2 z3 z4 z5 z6 z7 z8 z9 z10 z11 y0c y1c y2c y3c y4c y5c y6c y7c y8c y9c y10c y11c ⊢
 exact c_32
theorem rOpposite (t:Tr) (o:Opn) (rv bv:Value) (w:World) (hE:Env w) (hr:SlI w rv t.roots) (hv:SlBr w bv t.brs) (hf:FewBr t.brs) (hrl:t.roots.length≤1000000) (hkw:(Lit.int .i64 o.kind).wf=true) :
  Calls Tryz.prog 23 #[.agg #[rv,bv],o.agg] w (RetOp (oppR t o) w):=by
 unfold oppR
 by_cases hz:(applyR t o).2=0
 ·rw[if_pos hz]
  obtain⟨-,hk,h1,h2⟩:=opp_ok hz
  rcases hk with hk|hk|hk|hk|hk
  ·exact rOpp1 t o rv bv w hE hr hv hf hrl hkw hz hk (h1 hk)
  all_goals obtain⟨ub,ho⟩:=h2 b_37
  ·exact rOpp2 t o rv bv w hE hr hv hf hrl hkw hz hk ub ho
  ·exact rOpp3 t o rv bv w hE hr hv hf hrl hkw hz hk ub ho
  ·exact rOpp4 t o rv bv w hE hr hv hf hrl hkw hz hk ub ho
  ·exact rOpp5 t o rv bv w hE hr hv hf hrl hkw hz hk ub ho
 ·rw[if_neg hz]
  exact rOppNo t o rv bv w hE hr hv hf hrl hkw hz
end Go.Proofs.YtafncfomiolmgaaGreatDoor