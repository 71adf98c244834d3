/- Lemmas on what the functions of the program and of the library compute: Awk. The conditions stand at each. -/
import Derived.Test.YtafncfomiolmgaaGreatDoorQ32
import Derived.Test.YtafncfomiolmgaaGreatDoorQ41
import Derived.Deep.CutRange
import Derived.Deep.RegionHeld3
namespace Go.Proofs.YtafncfomiolmgaaGreatDoor
open Go.RowKit
theorem opn_grow {W W2:World} {H:Nat} {v0 v1 v2 v3 v4 v5 v6 v7 v8 v9 v10 v11:Value} (h:W.cell? ⟨H,0,none⟩=some v0∧W.cell? ⟨H,1,none⟩=some v1∧W.cell? ⟨H,2,none⟩=some v2∧W.cell? ⟨H,3,none⟩=some v3∧W.cell? ⟨H,4,none⟩=some v4∧W.cell? ⟨H,5,none⟩=some v5∧W.cell? ⟨H,6,none⟩=some v6∧W.cell? ⟨H,7,none⟩=some v7∧W.cell? ⟨H,8,none⟩=some v8∧W.cell? ⟨H,9,none⟩=some v9∧W.cell? ⟨H,10,none⟩=some v10∧W.cell? ⟨H,11,none⟩=some v11) (g:Grew W W2):W2.cell? ⟨H,0,none⟩=some v0∧W2.cell? ⟨H,1,none⟩=some v1∧W2.cell? ⟨H,2,none⟩=some v2∧W2.cell? ⟨H,3,none⟩=some v3∧W2.cell? ⟨H,4,none⟩=some v4∧W2.cell? ⟨H,5,none⟩=some v5∧W2.cell? ⟨H,6,none⟩=some v6∧W2.cell? ⟨H,7,none⟩=some v7∧W2.cell? ⟨H,8,none⟩=some v8∧W2.cell? ⟨H,9,none⟩=some v9∧W2.cell? ⟨H,10,none⟩=some v10∧W2.cell? ⟨H,11,none⟩=some v11:=by
 obtain⟨h0,h1,h2,h3,h4,h5,h6,h7,h8,h9,h10,h11⟩:=h
 exact⟨uQ g h0,uQ g h1,uQ g h2,uQ g h3,uQ g h4,uQ g h5,uQ g h6,uQ g h7,uQ g h8,uQ g h9,uQ g h10,uQ g h11⟩
theorem chgX {W W2:World} {e:Ending} (h:RetChg xT xU W e W2):∃ v,e=.returned (.tuple #[v,.int .i64 0])∧SlI W2 v [9]∧Grew W W2:=by
 obtain⟨v,n,l,he,hs,hg,h1,-⟩:=h
 obtain⟨rfl,hc⟩:=h1 ⟨xTRight,xURight⟩
 have:=xChgU hc
 subst this
 exact⟨v,he,hs,hg⟩
theorem eqE21 (n:Int) (v:Value) (w0 W:World) (t:TypeId) (h:SlI w0 v [n]) (hg:Grew w0 W):Calls Tryz.prog 27 #[v,.slice (some ⟨W.heap.size,0,none⟩) 1 1] (W.alloc (.cells #[.int .i64 n] t)) fun e w'=>e=.returned (.bool true)∧Grew (W.alloc (.cells #[.int .i64 n] t)) w':=by
 have:=equalI [n] [n] v _ _ (h.mono (hg.alloc (.cells #[.int .i64 n] t))) (Rd.fresh W t 1 1 [.int .i64 n] rfl b_36)
 simpa using this
theorem two_grow {W W2:World} {A B:Addr} {x y:Value} (h:W.cell? A=some x) (k:W.cell? B=some y) (g:Grew W W2):W2.cell? A=some x∧W2.cell? B=some y:=⟨uQ g h,uQ g k⟩
theorem opn_chain {W:World} {H X:Nat} {v0 v1 v2 v3 v4 v5 v6 v7 v8 v9 v10 v11 x0 x1 x2 x3 x4 x5 x6 x7 x8 x9 x10 x11:Value} (hne:H≠X) (h:W.cell? ⟨H,0,none⟩=some v0∧W.cell? ⟨H,1,none⟩=some v1∧W.cell? ⟨H,2,none⟩=some v2∧W.cell? ⟨H,3,none⟩=some v3∧W.cell? ⟨H,4,none⟩=some v4∧W.cell? ⟨H,5,none⟩=some v5∧W.cell? ⟨H,6,none⟩=some v6∧W.cell? ⟨H,7,none⟩=some v7∧W.cell? ⟨H,8,none⟩=some v8∧W.cell? ⟨H,9,none⟩=some v9∧W.cell? ⟨H,10,none⟩=some v10∧W.cell? ⟨H,11,none⟩=some v11):((((((((((((W.setCell ⟨X,0,none⟩ x0).setCell ⟨X,1,none⟩ x1).setCell ⟨X,2,none⟩ x2).setCell ⟨X,3,none⟩ x3).setCell ⟨X,4,none⟩ x4).setCell ⟨X,5,none⟩ x5).setCell ⟨X,6,none⟩ x6).setCell ⟨X,7,none⟩ x7).setCell ⟨X,8,none⟩ x8).setCell ⟨X,9,none⟩ x9).setCell ⟨X,10,none⟩ x10).setCell ⟨X,11,none⟩ x11).cell? ⟨H,0,none⟩=some v0∧((((((((((((W.setCell ⟨X,0,none⟩ x0).setCell ⟨X,1,none⟩ x1).setCell ⟨X,2,none⟩ x2).setCell ⟨X,3,none⟩ x3).setCell ⟨X,4,none⟩ x4).setCell ⟨X,5,none⟩ x5).setCell ⟨X,6,none⟩ x6).setCell ⟨X,7,none⟩ x7).setCell ⟨X,8,none⟩ x8).setCell ⟨X,9,none⟩ x9).setCell ⟨X,10,none⟩ x10).setCell ⟨X,11,none⟩ x11).cell? ⟨H,1,none⟩=some v1∧((((((((((((W.setCell ⟨X,0,none⟩ x0).setCell ⟨X,1,none⟩ x1).setCell ⟨X,2,none⟩ x2).setCell ⟨X,3,none⟩ x3).setCell ⟨X,4,none⟩ x4).setCell ⟨X,5,none⟩ x5).setCell ⟨X,6,none⟩ x6).setCell ⟨X,7,none⟩ x7).setCell ⟨X,8,none⟩ x8).setCell ⟨X,9,none⟩ x9).setCell ⟨X,10,none⟩ x10).setCell ⟨X,11,none⟩ x11).cell? ⟨H,2,none⟩=some v2∧((((((((((((W.setCell ⟨X,0,none⟩ x0).setCell ⟨X,1,none⟩ x1).setCell ⟨X,2,none⟩ x2).setCell ⟨X,3,none⟩ x3).setCell ⟨X,4,none⟩ x4).setCell ⟨X,5,none⟩ x5).setCell ⟨X,6,none⟩ x6).setCell ⟨X,7,none⟩ x7).setCell ⟨X,8,none⟩ x8).setCell ⟨X,9,none⟩ x9).setCell ⟨X,10,none⟩ x10).setCell ⟨X,11,none⟩ x11).cell? ⟨H,3,none⟩=some v3∧((((((((((((W.setCell ⟨X,0,none⟩ x0).setCell ⟨X,1,none⟩ x1).setCell ⟨X,2,none⟩ x2).setCell ⟨X,3,none⟩ x3).setCell ⟨X,4,none⟩ x4).setCell ⟨X,5,none⟩ x5).setCell ⟨X,6,none⟩ x6).setCell ⟨X,7,none⟩ x7).setCell ⟨X,8,none⟩ x8).setCell ⟨X,9,none⟩ x9).setCell ⟨X,10,none⟩ x10).setCell ⟨X,11,none⟩ x11).cell? ⟨H,4,none⟩=some v4∧((((((((((((W.setCell ⟨X,0,none⟩ x0).setCell ⟨X,1,none⟩ x1).setCell ⟨X,2,none⟩ x2).setCell ⟨X,3,none⟩ x3).setCell ⟨X,4,none⟩ x4).setCell ⟨X,5,none⟩ x5).setCell ⟨X,6,none⟩ x6).setCell ⟨X,7,none⟩ x7).setCell ⟨X,8,none⟩ x8).setCell ⟨X,9,none⟩ x9).setCell ⟨X,10,none⟩ x10).setCell ⟨X,11,none⟩ x11).cell? ⟨H,5,none⟩=some v5∧((((((((((((W.setCell ⟨X,0,none⟩ x0).setCell ⟨X,1,none⟩ x1).setCell ⟨X,2,none⟩ x2).setCell ⟨X,3,none⟩ x3).setCell ⟨X,4,none⟩ x4).setCell ⟨X,5,none⟩ x5).setCell ⟨X,6,none⟩ x6).setCell ⟨X,7,none⟩ x7).setCell ⟨X,8,none⟩ x8).setCell ⟨X,9,none⟩ x9).setCell ⟨X,10,none⟩ x10).setCell ⟨X,11,none⟩ x11).cell? ⟨H,6,none⟩=some v6∧((((((((((((W.setCell ⟨X,0,none⟩ x0).setCell ⟨X,1,none⟩ x1).setCell ⟨X,2,none⟩ x2).setCell ⟨X,3,none⟩ x3).setCell ⟨X,4,none⟩ x4).setCell ⟨X,5,none⟩ x5).setCell ⟨X,6,none⟩ x6).setCell ⟨X,7,none⟩ x7).setCell ⟨X,8,none⟩ x8).setCell ⟨X,9,none⟩ x9).setCell ⟨X,10,none⟩ x10).setCell ⟨X,11,none⟩ x11).cell? ⟨H,7,none⟩=some v7∧((((((((((((W.setCell ⟨X,0,none⟩ x0).setCell ⟨X,1,none⟩ x1).setCell ⟨X,2,none⟩ x2).setCell ⟨X,3,none⟩ x3).setCell ⟨X,4,none⟩ x4).setCell ⟨X,5,none⟩ x5).setCell ⟨X,6,none⟩ x6).setCell ⟨X,7,none⟩ x7).setCell ⟨X,8,none⟩ x8).setCell ⟨X,9,none⟩ x9).setCell ⟨X,10,none⟩ x10).setCell ⟨X,11,none⟩ x11).cell? ⟨H,8,none⟩=some v8∧((((((((((((W.setCell ⟨X,0,none⟩ x0).setCell ⟨X,1,none⟩ x1).setCell ⟨X,2,none⟩ x2).setCell ⟨X,3,none⟩ x3).setCell ⟨X,4,none⟩ x4).setCell ⟨X,5,none⟩ x5).setCell ⟨X,6,none⟩ x6).setCell ⟨X,7,none⟩ x7).setCell ⟨X,8,none⟩ x8).setCell ⟨X,9,none⟩ x9).setCell ⟨X,10,none⟩ x10).setCell ⟨X,11,none⟩ x11).cell? ⟨H,9,none⟩=some v9∧((((((((((((W.setCell ⟨X,0,none⟩ x0).setCell ⟨X,1,none⟩ x1).setCell ⟨X,2,none⟩ x2).setCell ⟨X,3,none⟩ x3).setCell ⟨X,4,none⟩ x4).setCell ⟨X,5,none⟩ x5).setCell ⟨X,6,none⟩ x6).setCell ⟨X,7,none⟩ x7).setCell ⟨X,8,none⟩ x8).setCell ⟨X,9,none⟩ x9).setCell ⟨X,10,none⟩ x10).setCell ⟨X,11,none⟩ x11).cell? ⟨H,10,none⟩=some v10∧((((((((((((W.setCell ⟨X,0,none⟩ x0).setCell ⟨X,1,none⟩ x1).setCell ⟨X,2,none⟩ x2).setCell ⟨X,3,none⟩ x3).setCell ⟨X,4,none⟩ x4).setCell ⟨X,5,none⟩ x5).setCell ⟨X,6,none⟩ x6).setCell ⟨X,7,none⟩ x7).setCell ⟨X,8,none⟩ x8).setCell ⟨X,9,none⟩ x9).setCell ⟨X,10,none⟩ x10).setCell ⟨X,11,none⟩ x11).cell? ⟨H,11,none⟩=some v11:=by
 have key:∀ j,((((((((((((W.setCell ⟨X,0,none⟩ x0).setCell ⟨X,1,none⟩ x1).setCell ⟨X,2,none⟩ x2).setCell ⟨X,3,none⟩ x3).setCell ⟨X,4,none⟩ x4).setCell ⟨X,5,none⟩ x5).setCell ⟨X,6,none⟩ x6).setCell ⟨X,7,none⟩ x7).setCell ⟨X,8,none⟩ x8).setCell ⟨X,9,none⟩ x9).setCell ⟨X,10,none⟩ x10).setCell ⟨X,11,none⟩ x11).cell? ⟨H,j,none⟩=W.cell? ⟨H,j,none⟩:=fun j=>by
  rw[uV _ _ _ _ (adr_ne hne.symm),uV _ _ _ _ (adr_ne hne.symm),uV _ _ _ _ (adr_ne hne.symm),uV _ _ _ _ (adr_ne hne.symm),uV _ _ _ _ (adr_ne hne.symm),uV _ _ _ _ (adr_ne hne.symm),uV _ _ _ _ (adr_ne hne.symm),uV _ _ _ _ (adr_ne hne.symm),uV _ _ _ _ (adr_ne hne.symm),uV _ _ _ _ (adr_ne hne.symm),uV _ _ _ _ (adr_ne hne.symm),uV _ _ _ _ (adr_ne hne.symm)]
 simp only [key]
 exact h
def OpCut (WA:World) (n:Int) (v:List Value) (s4 s5:Value) (wx:World):Prop:=∃ X,s4=.pointer (some ⟨X,0,none⟩)∧s5=.int .i64 n∧(∀ j u,v[j]? = some u→wx.cell? ⟨X,j,none⟩=some u)∧Grew WA wx
theorem twelve {P:Nat→Value→Prop} {v0 v1 v2 v3 v4 v5 v6 v7 v8 v9 v10 v11:Value} (h:P 0 v0∧P 1 v1∧P 2 v2∧P 3 v3∧P 4 v4∧P 5 v5∧P 6 v6∧P 7 v7∧P 8 v8∧P 9 v9∧P 10 v10∧P 11 v11):∀ j u,[v0,v1,v2,v3,v4,v5,v6,v7,v8,v9,v10,v11][j]? = some u→P j u:=by
 obtain⟨h0,h1,h2,h3,h4,h5,h6,h7,h8,h9,h10,h11⟩:=h
 intro j u hj
 match j,hj with
 | 0,hj=>injection hj with e;rw[← e];exact h0
 | 1,hj=>injection hj with e;rw[← e];exact h1
 | 2,hj=>injection hj with e;rw[← e];exact h2
 | 3,hj=>injection hj with e;rw[← e];exact h3
 | 4,hj=>injection hj with e;rw[← e];exact h4
 | 5,hj=>injection hj with e;rw[← e];exact h5
 | 6,hj=>injection hj with e;rw[← e];exact h6
 | 7,hj=>injection hj with e;rw[← e];exact h7
 | 8,hj=>injection hj with e;rw[← e];exact h8
 | 9,hj=>injection hj with e;rw[← e];exact h9
 | 10,hj=>injection hj with e;rw[← e];exact h10
 | 11,hj=>injection hj with e;rw[← e];exact h11
 | j+12,hj=>simp at hj
theorem op_meet {WA W:World} {n:Int} {X:Nat} {v0 v1 v2 v3 v4 v5 v6 v7 v8 v9 v10 v11:Value} (hX:W.heap[X]? = some (.cells [.int .i64 0,.int .i64 0,.int .i64 0,.int .i64 0,.int .i64 0,.int .i64 0,.int .i64 0,.string ⟨#[]⟩,.string ⟨#[]⟩,.int .i64 0,.int .i64 0,.int .i64 0].toArray 25 (0,0))) (hlo:WA.heap.size≤X) (hG:Grew WA W):OpCut WA n [v0,v1,v2,v3,v4,v5,v6,v7,v8,v9,v10,v11] (.pointer (some ⟨X,0,none⟩)) (.int .i64 n) ((((((((((((W.setCell ⟨X,0,none⟩ v0).setCell ⟨X,1,none⟩ v1).setCell ⟨X,2,none⟩ v2).setCell ⟨X,3,none⟩ v3).setCell ⟨X,4,none⟩ v4).setCell ⟨X,5,none⟩ v5).setCell ⟨X,6,none⟩ v6).setCell ⟨X,7,none⟩ v7).setCell ⟨X,8,none⟩ v8).setCell ⟨X,9,none⟩ v9).setCell ⟨X,10,none⟩ v10).setCell ⟨X,11,none⟩ v11):=by
 have c:∀ j u,[(.int .i64 0:Value),.int .i64 0,.int .i64 0,.int .i64 0,.int .i64 0,.int .i64 0,.int .i64 0,.string ⟨#[]⟩,.string ⟨#[]⟩,.int .i64 0,.int .i64 0,.int .i64 0][j]? = some u→W.cell? ⟨X,j,none⟩=some u:=fun j u hj=>by
  have h2:W.cell? ⟨X,j,none⟩=([.int .i64 0,.int .i64 0,.int .i64 0,.int .i64 0,.int .i64 0,.int .i64 0,.int .i64 0,.string ⟨#[]⟩,.string ⟨#[]⟩,.int .i64 0,.int .i64 0,.int .i64 0]:List Value).toArray[j]?:=by simp[World.cell?,hX]
  rw[h2,List.getElem?_toArray]
  exact hj
 refine⟨X,rfl,rfl,twelve (P:=fun j u=>((((((((((((W.setCell ⟨X,0,none⟩ v0).setCell ⟨X,1,none⟩ v1).setCell ⟨X,2,none⟩ v2).setCell ⟨X,3,none⟩ v3).setCell ⟨X,4,none⟩ v4).setCell ⟨X,5,none⟩ v5).setCell ⟨X,6,none⟩ v6).setCell ⟨X,7,none⟩ v7).setCell ⟨X,8,none⟩ v8).setCell ⟨X,9,none⟩ v9).setCell ⟨X,10,none⟩ v10).setCell ⟨X,11,none⟩ v11).cell? ⟨X,j,none⟩=some u) (res12 (c 0 _ rfl) (c 1 _ rfl) (c 2 _ rfl) (c 3 _ rfl) (c 4 _ rfl) (c 5 _ rfl) (c 6 _ rfl) (c 7 _ rfl) (c 8 _ rfl) (c 9 _ rfl) (c 10 _ rfl) (c 11 _ rfl)),?_⟩
 exact grew12 hG hlo
theorem op_meet2 {WA W:World} {n:Int} {v0 v1 v2 v3 v4 v5 v6 v7 v8 v9 v10 v11:Value} (hG:Grew WA W):OpCut WA n [v0,v1,v2,v3,v4,v5,v6,v7,v8,v9,v10,v11] (.pointer (some ⟨W.heap.size,0,none⟩)) (.int .i64 n) (W.alloc (.cells #[v0,v1,v2,v3,v4,v5,v6,v7,v8,v9,v10,v11] 25)) :=
 ⟨_,rfl,rfl,fun j u hj=>yQ (cs:=[v0,v1,v2,v3,v4,v5,v6,v7,v8,v9,v10,v11]) (uX _) j u hj,hG.alloc _⟩
theorem zo_facts {w:World} {X:Nat} (h:w.heap[X]? = some (.cells [.int .i64 0,.int .i64 0,.int .i64 0,.int .i64 0,.int .i64 0,.int .i64 0,.int .i64 0,.string ⟨#[]⟩,.string ⟨#[]⟩,.int .i64 0,.int .i64 0,.int .i64 0].toArray 25 (0,0))):(w.cell? ⟨X,0,none⟩=some (.int .i64 0)∧w.cell? ⟨X,1,none⟩=some (.int .i64 0)∧w.cell? ⟨X,2,none⟩=some (.int .i64 0)∧w.cell? ⟨X,3,none⟩=some (.int .i64 0)∧w.cell? ⟨X,4,none⟩=some (.int .i64 0)∧w.cell? ⟨X,5,none⟩=some (.int .i64 0)∧w.cell? ⟨X,6,none⟩=some (.int .i64 0)∧w.cell? ⟨X,7,none⟩=some (.string ⟨#[]⟩)∧w.cell? ⟨X,8,none⟩=some (.string ⟨#[]⟩)∧w.cell? ⟨X,9,none⟩=some (.int .i64 0)∧w.cell? ⟨X,10,none⟩=some (.int .i64 0)∧w.cell? ⟨X,11,none⟩=some (.int .i64 0))∧(∀ j,w.frozen? ⟨X,j,none⟩=false):=by
 simp[World.cell?,World.frozen?,h]
set_option maxHeartbeats 16000000 in
set_option maxRecDepth 100000 in
theorem awake21 (w:World) (hE:Env w):Calls Tryz.prog 11 #[] w fun e w'=>e=.returned (.bool true)∧Grew w w':=by
 have KE:=uZ (fun W=>exTr W)
 have hf:FewBr xT.brs:=xFew
 have ka1:=fun W rv bv (hW:Grew w W) (ht:TrOk W rv bv xT)=>rApply xT xO rv bv W (hE.mono hW) ht.1 ht.2 hf b_36 b_36
 rw[xA1] at ka1
 have KA1:=uZ ka1
 have ka2:=fun W rv bv (hW:Grew w W) (ht:TrOk W rv bv xT)=>rApply xT xQ rv bv W (hE.mono hW) ht.1 ht.2 hf b_36 b_36
 rw[xA2] at ka2
 have KA2:=uZ ka2
 have ka3:=fun W rv bv (hW:Grew w W) (ht:TrOk W rv bv xT)=>rApply xT xR rv bv W (hE.mono hW) ht.1 ht.2 hf b_36 b_36
 rw[xA3] at ka3
 have KA3:=uZ ka3
 have ko:=fun W rv bv (hW:Grew w W) (ht:TrOk W rv bv xT)=>rOpposite xT xO rv bv W (hE.mono hW) ht.1 ht.2 hf b_36 b_36
 have hop:oppR xT xO=(xP,0):=by
  unfold oppR
  rw[xA1]
  rw[if_pos rfl,xOpp]
 rw[hop] at ko
 unfold RetOp Opn.agg at ko
 dsimp only [xO,xP] at ko
 have KO:=uZ ko
 unfold Opn.agg at KA1 KA2 KA3
 dsimp only [xO,xQ,xR] at KA1 KA2 KA3
 have KC:=uZ (fun W ra ba rb bb (hW:Grew w W) (h1:TrOk W ra ba xT) (h2:TrOk W rb bb xU)=>(rChanged xT xU ra ba rb bb W (hE.mono hW) h1.1 h1.2 h2.1 h2.2 xFew (right_few xURight).1 b_36 b_36).mono fun _ _ h=>chgX h)
 have kt:=fun W (hW:Grew w W)=>rText21 xO W (hE.mono hW)
 rw[xText] at kt
 unfold Opn.agg at kt
 dsimp only [xO] at kt
 have KT:=uZ kt
 have kf:=fun W (hW:Grew w W)=>fFormedX xZ W (hE.mono hW)
 rw[xForm] at kf
 unfold Opn.agg at kf
 dsimp only [xZ] at kf
 have KF:=uZ kf
 clear ka1 ka2 ka3 ko hop kt kf
 have HS0:=uZ (show(w.alloc (.cells [.int .i64 1,.int .i64 3,.int .i64 2,.int .i64 9,.int .i64 5,.int .i64 0,.int .i64 0,.string ⟨#[]⟩,.string ⟨#[]⟩,.int .i64 0,.int .i64 0,.int .i64 0].toArray 25)).cell? ⟨w.heap.size,0,none⟩=some (.int .i64 1)∧(w.alloc (.cells [.int .i64 1,.int .i64 3,.int .i64 2,.int .i64 9,.int .i64 5,.int .i64 0,.int .i64 0,.string ⟨#[]⟩,.string ⟨#[]⟩,.int .i64 0,.int .i64 0,.int .i64 0].toArray 25)).cell? ⟨w.heap.size,1,none⟩=some (.int .i64 3)∧(w.alloc (.cells [.int .i64 1,.int .i64 3,.int .i64 2,.int .i64 9,.int .i64 5,.int .i64 0,.int .i64 0,.string ⟨#[]⟩,.string ⟨#[]⟩,.int .i64 0,.int .i64 0,.int .i64 0].toArray 25)).cell? ⟨w.heap.size,2,none⟩=some (.int .i64 2)∧(w.alloc (.cells [.int .i64 1,.int .i64 3,.int .i64 2,.int .i64 9,.int .i64 5,.int .i64 0,.int .i64 0,.string ⟨#[]⟩,.string ⟨#[]⟩,.int .i64 0,.int .i64 0,.int .i64 0].toArray 25)).cell? ⟨w.heap.size,3,none⟩=some (.int .i64 9)∧(w.alloc (.cells [.int .i64 1,.int .i64 3,.int .i64 2,.int .i64 9,.int .i64 5,.int .i64 0,.int .i64 0,.string ⟨#[]⟩,.string ⟨#[]⟩,.int .i64 0,.int .i64 0,.int .i64 0].toArray 25)).cell? ⟨w.heap.size,4,none⟩=some (.int .i64 5)∧(w.alloc (.cells [.int .i64 1,.int .i64 3,.int .i64 2,.int .i64 9,.int .i64 5,.int .i64 0,.int .i64 0,.string ⟨#[]⟩,.string ⟨#[]⟩,.int .i64 0,.int .i64 0,.int .i64 0].toArray 25)).cell? ⟨w.heap.size,5,none⟩=some (.int .i64 0)∧(w.alloc (.cells [.int .i64 1,.int .i64 3,.int .i64 2,.int .i64 9,.int .i64 5,.int .i64 0,.int .i64 0,.string ⟨#[]⟩,.string ⟨#[]⟩,.int .i64 0,.int .i64 0,.int .i64 0].toArray 25)).cell? ⟨w.heap.size,6,none⟩=some (.int .i64 0)∧(w.alloc (.cells [.int .i64 1,.int .i64 3,.int .i64 2,.int .i64 9,.int .i64 5,.int .i64 0,.int .i64 0,.string ⟨#[]⟩,.string ⟨#[]⟩,.int .i64 0,.int .i64 0,.int .i64 0].toArray 25)).cell? ⟨w.heap.size,7,none⟩=some (.string ⟨#[]⟩)∧(w.alloc (.cells [.int .i64 1,.int .i64 3,.int .i64 2,.int .i64 9,.int .i64 5,.int .i64 0,.int .i64 0,.string ⟨#[]⟩,.string ⟨#[]⟩,.int .i64 0,.int .i64 0,.int .i64 0].toArray 25)).cell? ⟨w.heap.size,8,none⟩=some (.string ⟨#[]⟩)∧(w.alloc (.cells [.int .i64 1,.int .i64 3,.int .i64 2,.int .i64 9,.int .i64 5,.int .i64 0,.int .i64 0,.string ⟨#[]⟩,.string ⟨#[]⟩,.int .i64 0,.int .i64 0,.int .i64 0].toArray 25)).cell? ⟨w.heap.size,9,none⟩=some (.int .i64 0)∧(w.alloc (.cells [.int .i64 1,.int .i64 3,.int .i64 2,.int .i64 9,.int .i64 5,.int .i64 0,.int .i64 0,.string ⟨#[]⟩,.string ⟨#[]⟩,.int .i64 0,.int .i64 0,.int .i64 0].toArray 25)).cell? ⟨w.heap.size,10,none⟩=some (.int .i64 0)∧(w.alloc (.cells [.int .i64 1,.int .i64 3,.int .i64 2,.int .i64 9,.int .i64 5,.int .i64 0,.int .i64 0,.string ⟨#[]⟩,.string ⟨#[]⟩,.int .i64 0,.int .i64 0,.int .i64 0].toArray 25)).cell? ⟨w.heap.size,11,none⟩=some (.int .i64 0) from opn_all xO (uX _))
 have GA:=uZ ((uX w).alloc (.cells [.int .i64 1,.int .i64 3,.int .i64 2,.int .i64 9,.int .i64 5,.int .i64 0,.int .i64 0,.string ⟨#[]⟩,.string ⟨#[]⟩,.int .i64 0,.int .i64 0,.int .i64 0].toArray 25))
 go_enter Tryz.func11,Tryz.ntmps11
 go_wp2_with fail
 generalize (w.alloc (.cells [.int .i64 1,.int .i64 3,.int .i64 2,.int .i64 9,.int .i64 5,.int .i64 0,.int .i64 0,.string ⟨#[]⟩,.string ⟨#[]⟩,.int .i64 0,.int .i64 0,.int .i64 0].toArray 25))=WA at HS0 GA ⊢
 go_cut [2,3] from 15 to 21 (fun s2 s3 wx=>ApCut WA (xU,(0:Int)) s2 s3 wx)
 case first =>
  skip
  go_region_held3 (fun W=>W.cell? ⟨w.heap.size,0,none⟩=some (.int .i64 1)∧W.cell? ⟨w.heap.size,1,none⟩=some (.int .i64 3)∧W.cell? ⟨w.heap.size,2,none⟩=some (.int .i64 2)∧W.cell? ⟨w.heap.size,3,none⟩=some (.int .i64 9)∧W.cell? ⟨w.heap.size,4,none⟩=some (.int .i64 5)∧W.cell? ⟨w.heap.size,5,none⟩=some (.int .i64 0)∧W.cell? ⟨w.heap.size,6,none⟩=some (.int .i64 0)∧W.cell? ⟨w.heap.size,7,none⟩=some (.string ⟨#[]⟩)∧W.cell? ⟨w.heap.size,8,none⟩=some (.string ⟨#[]⟩)∧W.cell? ⟨w.heap.size,9,none⟩=some (.int .i64 0)∧W.cell? ⟨w.heap.size,10,none⟩=some (.int .i64 0)∧W.cell? ⟨w.heap.size,11,none⟩=some (.int .i64 0)) (exact opn_grow HS0.out (by repeat (first|exact uX _|exact GB2.out|exact GB1.out|refine uJ ?_|refine uU ?_ _|refine yZ ?_ (by first|exact Nat.le_refl _|exact GB1.out.size|exact GB2.out.size|simp) _))) (first|(go_at_call 37;refine(KE.out _).mono ?_;rintro e w1 ⟨rv1,bv1,rfl,ht1,g1⟩;have GB1:=uZ (show Grew WA w1 from uY b_22 g1);obtain⟨A1,k1,rfl,-⟩:=SlI.open_ ht1.1;obtain⟨A2,k2,rfl,-⟩:=SlBr.open_ ht1.2;have HT1:=uZ ht1;(first|have Na1:=uZ (show Grew (WA.alloc (.cells [.slice none 0 0,.slice none 0 0].toArray 35)) w1 from uY (uX _).drew g1)|have Na1:=uZ (show Grew (WA.alloc (.cells [.slice none 0 0,.slice none 0 0].toArray 35)) w1 from uY (uX _) g1)|skip);clear ht1 g1)|(go_at_call 18;refine(KA1.out _ _ _ (GA.out.trans (by repeat (first|exact uX _|exact GB1.out|refine uJ ?_|refine uU ?_ _))) (HT1.out.mono b_22)).mono ?_;rintro e w2 ⟨rv2,bv2,rfl,ht2,g2⟩;have GX:=uZ (show Grew w1 w2 from uY b_22 g2);have GB2:=uZ (GB1.out.trans GX.out);obtain⟨B1,l1,rfl,-⟩:=SlI.open_ ht2.1;obtain⟨B2,l2,rfl,-⟩:=SlBr.open_ ht2.2;have HT2:=uZ ht2;(try have PA:=uK (Na1.out.trans GX.out) (heap_allocE (a:=WA) (p:=(.cells [.slice none 0 0,.slice none 0 0].toArray 35)) rfl));(first|have PB:=uK (show Grew (w1.alloc (.cells [.slice none 0 0,.slice none 0 0].toArray 35)) w2 from uY (uX _).drew g2) (heap_allocE (a:=w1) (p:=(.cells [.slice none 0 0,.slice none 0 0].toArray 35)) rfl)|have PB:=uK (show Grew (w1.alloc (.cells [.slice none 0 0,.slice none 0 0].toArray 35)) w2 from uY (uX _) g2) (heap_allocE (a:=w1) (p:=(.cells [.slice none 0 0,.slice none 0 0].toArray 35)) rfl)|skip);(try have pa0:=(zt_facts PA).1);(try have pa1:=(zt_facts PA).2.1);(try have pa2:=(zt_facts PA).2.2.1);(try have pa3:=(zt_facts PA).2.2.2);(try have pb0:=(zt_facts PB).1);(try have pb1:=(zt_facts PB).2.1);(try have pb2:=(zt_facts PB).2.2.1);(try have pb3:=(zt_facts PB).2.2.2);clear ht2 g2))
  all_goals go_wp2_with fail
  all_goals go_meet
  all_goals first|exact ap_meet2 GB2.out HT2.out|exact ap_meet PA (Nat.le_refl _) GB2.out HT2.out|exact ap_meet PB GB1.out.size GB2.out HT2.out
 case rest =>
  skip
  obtain⟨W1,hW1⟩:∃ W1,W1=wc:=⟨_,rfl⟩
  subst hW1
  obtain⟨X,rvU,bvU,rfl,rfl,x0,x1,hTU,hgU⟩:=hcut
  have HSU:=uZ (opn_grow HS0.out hgU)
  have HX:=uZ (show W1.cell? ⟨X,0,none⟩=some rvU∧W1.cell? ⟨X,1,none⟩=some bvU∧TrOk W1 rvU bvU xU from⟨x0,x1,hTU⟩)
  have GU:=uZ (GA.out.trans hgU)
  have HL1:=uZ (World.block_lt_of_cell? _ _ HSU.out.1:w.heap.size<W1.heap.size)
  have HN1:=uZ (show w.heap.size≠W1.heap.size from Nat.ne_of_lt HL1.out)
  clear x0 x1 hTU hgU HS0 GA
  go_wp2_with fail
  go_cut [4,5] from 21 to 27 (fun s4 s5 wx=>OpCut W1 0 [.int .i64 1,.int .i64 3,.int .i64 2,.int .i64 9,.int .i64 2,.int .i64 0,.int .i64 0,.string ⟨#[]⟩,.string ⟨#[]⟩,.int .i64 0,.int .i64 0,.int .i64 0] s4 s5 wx)
  case first =>
   skip
   go_region_held3 (fun W=>W.cell? ⟨w.heap.size,0,none⟩=some (.int .i64 1)∧W.cell? ⟨w.heap.size,1,none⟩=some (.int .i64 3)∧W.cell? ⟨w.heap.size,2,none⟩=some (.int .i64 2)∧W.cell? ⟨w.heap.size,3,none⟩=some (.int .i64 9)∧W.cell? ⟨w.heap.size,4,none⟩=some (.int .i64 5)∧W.cell? ⟨w.heap.size,5,none⟩=some (.int .i64 0)∧W.cell? ⟨w.heap.size,6,none⟩=some (.int .i64 0)∧W.cell? ⟨w.heap.size,7,none⟩=some (.string ⟨#[]⟩)∧W.cell? ⟨w.heap.size,8,none⟩=some (.string ⟨#[]⟩)∧W.cell? ⟨w.heap.size,9,none⟩=some (.int .i64 0)∧W.cell? ⟨w.heap.size,10,none⟩=some (.int .i64 0)∧W.cell? ⟨w.heap.size,11,none⟩=some (.int .i64 0)) (first|(with_reducible exact opn_chain HN3.out (opn_grow HSU.out GB2.out))|(with_reducible exact opn_chain HN2.out (opn_grow HSU.out GB2.out))|exact opn_grow HSU.out (by repeat (first|exact uX _|exact GB2.out|exact GB1.out|refine uJ ?_|refine uU ?_ _))) (first|(go_at_call 37;refine(KE.out _).mono ?_;rintro e w1 ⟨rv1,bv1,rfl,ht1,g1⟩;have GB1:=uZ (show Grew W1 w1 from uY b_22 g1);obtain⟨A1,k1,rfl,-⟩:=SlI.open_ ht1.1;obtain⟨A2,k2,rfl,-⟩:=SlBr.open_ ht1.2;have HT1:=uZ ht1;have HN2:=uZ (show w.heap.size≠w1.heap.size from Nat.ne_of_lt (Nat.lt_of_lt_of_le HL1.out GB1.out.size));(first|have Na1:=uZ (show Grew (W1.alloc (.cells [.int .i64 0,.int .i64 0,.int .i64 0,.int .i64 0,.int .i64 0,.int .i64 0,.int .i64 0,.string ⟨#[]⟩,.string ⟨#[]⟩,.int .i64 0,.int .i64 0,.int .i64 0].toArray 25)) w1 from uY (uX _).drew g1)|have Na1:=uZ (show Grew (W1.alloc (.cells [.int .i64 0,.int .i64 0,.int .i64 0,.int .i64 0,.int .i64 0,.int .i64 0,.int .i64 0,.string ⟨#[]⟩,.string ⟨#[]⟩,.int .i64 0,.int .i64 0,.int .i64 0].toArray 25)) w1 from uY (uX _) g1)|skip);clear ht1 g1)|(go_at_call 23;refine(KO.out _ _ _ (GU.out.trans (by repeat (first|exact GB1.out|exact uX _|refine uJ ?_|refine uU ?_ _))) (HT1.out.mono b_22)).mono ?_;rintro e w2 ⟨rfl,g2⟩;have GX:=uZ (show Grew w1 w2 from uY b_22 g2);have GB2:=uZ (GB1.out.trans GX.out);(try have PA:=uK (Na1.out.trans GX.out) (heap_allocE (a:=W1) (p:=(.cells [.int .i64 0,.int .i64 0,.int .i64 0,.int .i64 0,.int .i64 0,.int .i64 0,.int .i64 0,.string ⟨#[]⟩,.string ⟨#[]⟩,.int .i64 0,.int .i64 0,.int .i64 0].toArray 25)) rfl));(first|have PB:=uK (show Grew (w1.alloc (.cells [.int .i64 0,.int .i64 0,.int .i64 0,.int .i64 0,.int .i64 0,.int .i64 0,.int .i64 0,.string ⟨#[]⟩,.string ⟨#[]⟩,.int .i64 0,.int .i64 0,.int .i64 0].toArray 25)) w2 from uY (uX _).drew g2) (heap_allocE (a:=w1) (p:=(.cells [.int .i64 0,.int .i64 0,.int .i64 0,.int .i64 0,.int .i64 0,.int .i64 0,.int .i64 0,.string ⟨#[]⟩,.string ⟨#[]⟩,.int .i64 0,.int .i64 0,.int .i64 0].toArray 25)) rfl)|have PB:=uK (show Grew (w1.alloc (.cells [.int .i64 0,.int .i64 0,.int .i64 0,.int .i64 0,.int .i64 0,.int .i64 0,.int .i64 0,.string ⟨#[]⟩,.string ⟨#[]⟩,.int .i64 0,.int .i64 0,.int .i64 0].toArray 25)) w2 from uY (uX _) g2) (heap_allocE (a:=w1) (p:=(.cells [.int .i64 0,.int .i64 0,.int .i64 0,.int .i64 0,.int .i64 0,.int .i64 0,.int .i64 0,.string ⟨#[]⟩,.string ⟨#[]⟩,.int .i64 0,.int .i64 0,.int .i64 0].toArray 25)) rfl)|skip);(try (have PAz:=PA;have hEX:∃ XX,XX=W1.heap.size:=⟨_,rfl⟩;obtain⟨XX,hXX⟩:=hEX;rw[← hXX] at PAz ⊢;have PX:=zo_facts PAz;obtain⟨⟨pa0,pa1,pa2,pa3,pa4,pa5,pa6,pa7,pa8,pa9,pa10,pa11⟩,paz⟩:=PX;have paz0:=paz 0;have paz1:=paz 1;have paz2:=paz 2;have paz3:=paz 3;have paz4:=paz 4;have paz5:=paz 5;have paz6:=paz 6;have paz7:=paz 7;have paz8:=paz 8;have paz9:=paz 9;have paz10:=paz 10;have paz11:=paz 11;clear paz;have HXX:=uZ hXX;have HN3:=uZ (show w.heap.size≠XX from hXX▸HN1.out);clear hXX PA));(try (have pbf:=zo_facts PB;obtain⟨⟨pb0,pb1,pb2,pb3,pb4,pb5,pb6,pb7,pb8,pb9,pb10,pb11⟩,pbz⟩:=pbf;have pbz0:=pbz 0;have pbz1:=pbz 1;have pbz2:=pbz 2;have pbz3:=pbz 3;have pbz4:=pbz 4;have pbz5:=pbz 5;have pbz6:=pbz 6;have pbz7:=pbz 7;have pbz8:=pbz 8;have pbz9:=pbz 9;have pbz10:=pbz 10;have pbz11:=pbz 11;clear pbz));clear g2))
   all_goals go_wp2_with fail
   all_goals go_meet
   all_goals with_reducible first|exact op_meet2 GB2.out|exact op_meet PAz (Nat.le_of_eq HXX.out.symm) GB2.out|exact op_meet PB GB1.out.size GB2.out
  case rest =>
   skip
   obtain⟨Y,rfl,rfl,hO,hgO⟩:=hcut
   have HO:=uZ (show wc.cell? ⟨Y,0,none⟩=some (.int .i64 1)∧wc.cell? ⟨Y,1,none⟩=some (.int .i64 3)∧wc.cell? ⟨Y,2,none⟩=some (.int .i64 2)∧wc.cell? ⟨Y,3,none⟩=some (.int .i64 9)∧wc.cell? ⟨Y,4,none⟩=some (.int .i64 2)∧wc.cell? ⟨Y,5,none⟩=some (.int .i64 0)∧wc.cell? ⟨Y,6,none⟩=some (.int .i64 0)∧wc.cell? ⟨Y,7,none⟩=some (.string ⟨#[]⟩)∧wc.cell? ⟨Y,8,none⟩=some (.string ⟨#[]⟩)∧wc.cell? ⟨Y,9,none⟩=some (.int .i64 0)∧wc.cell? ⟨Y,10,none⟩=some (.int .i64 0)∧wc.cell? ⟨Y,11,none⟩=some (.int .i64 0) from⟨hO 0 _ rfl,hO 1 _ rfl,hO 2 _ rfl,hO 3 _ rfl,hO 4 _ rfl,hO 5 _ rfl,hO 6 _ rfl,hO 7 _ rfl,hO 8 _ rfl,hO 9 _ rfl,hO 10 _ rfl,hO 11 _ rfl⟩)
   replace HSU:=uZ (opn_grow HSU.out hgO)
   replace HX:=uZ (show _∧_∧_ from⟨uQ hgO HX.out.1,uQ hgO HX.out.2.1,HX.out.2.2.mono hgO⟩)
   replace GU:=uZ (GU.out.trans hgO)
   clear hO hgO HL1 HN1
   go_wp2_with fail
   refine(KE.out _).mono ?_
   rintro e va ⟨rva,bva,rfl,hta,ga⟩
   have HTa:=uZ hta
   have GCa:=uZ (show Grew wc va from uY b_22 ga)
   obtain⟨Aa,ka,rfl,-⟩:=SlI.open_ hta.1
   obtain⟨Ba,la,rfl,-⟩:=SlBr.open_ hta.2
   clear hta ga
   dsimp only
   go_wp2_with fail
   refine(KA2.out _ _ _ (GU.out.trans (GCa.out.trans b_22)) (HTa.out.mono b_22)).mono ?_
   rintro e vb ⟨rvb,bvb,rfl,htb,gb⟩
   have GCb:=uZ (GCa.out.trans (uY b_22 gb))
   obtain⟨Ab,kb,rfl,-⟩:=SlI.open_ htb.1
   obtain⟨Bb,lb,rfl,-⟩:=SlBr.open_ htb.2
   clear htb gb HTa GCa
   dsimp only [List.length_nil]
   replace HSU:=uZ (opn_grow HSU.out GCb.out)
   replace HO:=uZ (opn_grow HO.out GCb.out)
   replace HX:=uZ (show _∧_∧_ from⟨uQ GCb.out HX.out.1,uQ GCb.out HX.out.2.1,HX.out.2.2.mono GCb.out⟩)
   replace GU:=uZ (GU.out.trans GCb.out)
   clear GCb
   go_wp2_with fail
   refine(KE.out _).mono ?_
   rintro e ua ⟨rva,bva,rfl,hta,ga⟩
   have HTa:=uZ hta
   have GCa:=uZ (show Grew vb ua from uY b_22 ga)
   obtain⟨Aa,ka,rfl,-⟩:=SlI.open_ hta.1
   obtain⟨Ba,la,rfl,-⟩:=SlBr.open_ hta.2
   clear hta ga
   dsimp only
   go_wp2_with fail
   refine(KA3.out _ _ _ (GU.out.trans (GCa.out.trans b_22)) (HTa.out.mono b_22)).mono ?_
   rintro e ub ⟨rvb,bvb,rfl,htb,gb⟩
   have GCb:=uZ (GCa.out.trans (uY b_22 gb))
   obtain⟨Ab,kb,rfl,-⟩:=SlI.open_ htb.1
   obtain⟨Bb,lb,rfl,-⟩:=SlBr.open_ htb.2
   clear htb gb HTa GCa
   dsimp only [List.length_nil]
   replace HSU:=uZ (opn_grow HSU.out GCb.out)
   replace HO:=uZ (opn_grow HO.out GCb.out)
   replace HX:=uZ (show _∧_∧_ from⟨uQ GCb.out HX.out.1,uQ GCb.out HX.out.2.1,HX.out.2.2.mono GCb.out⟩)
   replace GU:=uZ (GU.out.trans GCb.out)
   clear GCb
   go_wp2_with fail
   go_region_held3 (fun W=>W.cell? ⟨X,0,none⟩=some rvU∧W.cell? ⟨X,1,none⟩=some bvU) (exact two_grow HX.out.1 HX.out.2.1 (by repeat (first|exact uX _|exact G8.out|exact G7.out|refine uJ ?_|refine uU ?_ _))) (first|(go_at_call 37;refine(KE.out _).mono ?_;rintro e w7 ⟨rv7,bv7,rfl,ht7,g7⟩;have G7:=uZ (show Grew ub w7 from uY b_22 g7);obtain⟨A7,k7,rfl,-⟩:=SlI.open_ ht7.1;obtain⟨B7,l7,rfl,-⟩:=SlBr.open_ ht7.2;have HT7:=uZ ht7;clear ht7 g7)|(go_at_call 25;refine(KC.out _ _ _ _ _ (GU.out.trans b_18) (HT7.out.mono b_22) (HX.out.2.2.mono b_18)).mono ?_;rintro e w8 ⟨v8,rfl,hv8,g8⟩;have G8:=uZ (show Grew ub w8 from uY b_18 g8);have HV8:=uZ hv8;clear hv8 g8))
   replace HSU:=uZ (opn_grow HSU.out G8.out)
   replace HO:=uZ (opn_grow HO.out G8.out)
   replace HX:=uZ (show _∧_∧_ from⟨uQ G8.out HX.out.1,uQ G8.out HX.out.2.1,HX.out.2.2.mono G8.out⟩)
   replace GU:=uZ (GU.out.trans G8.out)
   clear G7 G8 HT7 KA1 KA2 KA3 KO KE KC
   obtain⟨a0,a1,a2,a3,a4,a5,a6,a7,a8,a9,a10,a11⟩:=HSU.out
   go_wp2_with fail
   refine(KT.out _ GU.out).mono ?_
   rintro e w9 ⟨rfl,g9⟩
   clear a0 a1 a2 a3 a4 a5 a6 a7 a8 a9 a10 a11 HSU KT
   replace HO:=uZ (opn_grow HO.out g9)
   obtain⟨x0,x1,hT⟩:=HX.out
   replace x0:=uQ g9 x0
   replace x1:=uQ g9 x1
   replace hT:=hT.mono g9
   replace GU:=uZ (GU.out.trans g9)
   replace HV8:=uZ (SlI.mono HV8.out g9)
   clear g9 HX
   obtain⟨BU,lU,rfl,-,-,hbc⟩:=SlBr.open_ hT.2
   obtain⟨bb,off,rfl,-,hc⟩:=hbc b_36
   obtain⟨kv1,hk1,hc1⟩:=hc 1 b_36
   obtain⟨kv2,hk2,hc2⟩:=hc 2 b_36
   obtain⟨-,-,-,-,-,q1⟩:=hc1 w9 (uX _)
   obtain⟨-,-,-,-,-,q2⟩:=hc2 w9 (uX _)
   replace hk1:SlI w9 kv1 []:=hk1
   replace hk2:SlI w9 kv2 [9]:=hk2
   have HK2:=uZ hk2
   obtain⟨A1,k1,rfl,-⟩:=SlI.open_ hk1
   clear hbc hc hc1 hc2 hT hk1 hk2
   replace x1:w9.cell? ⟨X,1,none⟩=some (.slice (some ⟨bb,off,none⟩) 4 lU):=x1
   dsimp only [List.length_nil] at q1
   dsimp only
   go_wp2_with fail
   refine(eqE21 9 _ w9 _ _ HK2.out (uX _)).mono ?_
   rintro e w10 ⟨rfl,g10⟩
   replace g10:=((uX w9).alloc _).trans g10
   obtain⟨o0,o1,o2,o3,o4,o5,o6,o7,o8,o9,o10,o11⟩:=opn_grow HO.out g10
   replace GU:=uZ (GU.out.trans g10)
   replace HV8:=uZ (SlI.mono HV8.out g10)
   clear g10 HO HK2 x0 x1 q1 q2
   dsimp only
   go_wp2_with fail
   refine(eqE21 9 _ w10 _ _ HV8.out (uX _)).mono ?_
   rintro e w11 ⟨rfl,g11⟩
   replace GU:=uZ (GU.out.trans (((uX w10).alloc _).trans g11))
   clear g11 HV8 o0 o1 o2 o3 o4 o5 o6 o7 o8 o9 o10 o11
   dsimp only
   go_wp2_with fail
   refine(KF.out _ GU.out).mono ?_
   rintro e w12 ⟨rfl,g12⟩
   replace GU:=uZ (GU.out.trans g12)
   clear g12 KF
   dsimp only
   go_wp2
   go_ret
   exact⟨rfl,GU.out⟩
end Go.Proofs.YtafncfomiolmgaaGreatDoor