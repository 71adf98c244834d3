/- The law RearrangeOpposes, walked, its awake given. The condition: the library's own variables hold what they must. -/
import Derived.Test.YtafncfomiolmgaaGreatDoorQ32
import Derived.Test.YtafncfomiolmgaaGreatDoorQ42
import Derived.Test.YtafncfomiolmgaaGreatDoorQ33
import Derived.Test.YtafncfomiolmgaaGreatDoorQ43
namespace Go.Proofs.YtafncfomiolmgaaGreatDoor
open Go.RowKit
theorem s17_grow {W W2:World} {H G J:Nat} {r b rx bx v0 v1 v2 v3 v4 v5 v6 v7 v8 v9 v10 v11:Value} (h:(W.cell? ⟨H,0,none⟩=some (r)∧W.cell? ⟨H,1,none⟩=some (b))∧(W.cell? ⟨G,0,none⟩=some (rx)∧W.cell? ⟨G,1,none⟩=some (bx))∧W.cell? ⟨J,0,none⟩=some (v0)∧W.cell? ⟨J,1,none⟩=some (v1)∧W.cell? ⟨J,2,none⟩=some (v2)∧W.cell? ⟨J,3,none⟩=some (v3)∧W.cell? ⟨J,4,none⟩=some (v4)∧W.cell? ⟨J,5,none⟩=some (v5)∧W.cell? ⟨J,6,none⟩=some (v6)∧W.cell? ⟨J,7,none⟩=some (v7)∧W.cell? ⟨J,8,none⟩=some (v8)∧W.cell? ⟨J,9,none⟩=some (v9)∧W.cell? ⟨J,10,none⟩=some (v10)∧W.cell? ⟨J,11,none⟩=some (v11)) (g:Grew W W2):(W2.cell? ⟨H,0,none⟩=some (r)∧W2.cell? ⟨H,1,none⟩=some (b))∧(W2.cell? ⟨G,0,none⟩=some (rx)∧W2.cell? ⟨G,1,none⟩=some (bx))∧W2.cell? ⟨J,0,none⟩=some (v0)∧W2.cell? ⟨J,1,none⟩=some (v1)∧W2.cell? ⟨J,2,none⟩=some (v2)∧W2.cell? ⟨J,3,none⟩=some (v3)∧W2.cell? ⟨J,4,none⟩=some (v4)∧W2.cell? ⟨J,5,none⟩=some (v5)∧W2.cell? ⟨J,6,none⟩=some (v6)∧W2.cell? ⟨J,7,none⟩=some (v7)∧W2.cell? ⟨J,8,none⟩=some (v8)∧W2.cell? ⟨J,9,none⟩=some (v9)∧W2.cell? ⟨J,10,none⟩=some (v10)∧W2.cell? ⟨J,11,none⟩=some (v11):=by
 obtain⟨⟨r0,b0⟩,⟨r1,b1⟩,h0,h1,h2,h3,h4,h5,h6,h7,h8,h9,h10,h11⟩:=h
 exact⟨⟨uQ g r0,uQ g b0⟩,⟨uQ g r1,uQ g b1⟩,uQ g h0,uQ g h1,uQ g h2,uQ g h3,uQ g h4,uQ g h5,uQ g h6,uQ g h7,uQ g h8,uQ g h9,uQ g h10,uQ g h11⟩
theorem s17_chain {W:World} {H G J X:Nat} {r b rx bx v0 v1 v2 v3 v4 v5 v6 v7 v8 v9 v10 v11 x0 x1 x2 x3 x4 x5 x6 x7 x8 x9 x10 x11:Value} (hne:H≠X∧G≠X∧J≠X) (h:(W.cell? ⟨H,0,none⟩=some (r)∧W.cell? ⟨H,1,none⟩=some (b))∧(W.cell? ⟨G,0,none⟩=some (rx)∧W.cell? ⟨G,1,none⟩=some (bx))∧W.cell? ⟨J,0,none⟩=some (v0)∧W.cell? ⟨J,1,none⟩=some (v1)∧W.cell? ⟨J,2,none⟩=some (v2)∧W.cell? ⟨J,3,none⟩=some (v3)∧W.cell? ⟨J,4,none⟩=some (v4)∧W.cell? ⟨J,5,none⟩=some (v5)∧W.cell? ⟨J,6,none⟩=some (v6)∧W.cell? ⟨J,7,none⟩=some (v7)∧W.cell? ⟨J,8,none⟩=some (v8)∧W.cell? ⟨J,9,none⟩=some (v9)∧W.cell? ⟨J,10,none⟩=some (v10)∧W.cell? ⟨J,11,none⟩=some (v11)):(((((((((((((W.setCell ⟨X,0,none⟩ x0).setCell ⟨X,1,none⟩ x1).setCell ⟨X,2,none⟩ x2).setCell ⟨X,3,none⟩ x3).setCell ⟨X,4,none⟩ x4).setCell ⟨X,5,none⟩ x5).setCell ⟨X,6,none⟩ x6).setCell ⟨X,7,none⟩ x7).setCell ⟨X,8,none⟩ x8).setCell ⟨X,9,none⟩ x9).setCell ⟨X,10,none⟩ x10).setCell ⟨X,11,none⟩ x11).cell? ⟨H,0,none⟩=some (r)∧((((((((((((W.setCell ⟨X,0,none⟩ x0).setCell ⟨X,1,none⟩ x1).setCell ⟨X,2,none⟩ x2).setCell ⟨X,3,none⟩ x3).setCell ⟨X,4,none⟩ x4).setCell ⟨X,5,none⟩ x5).setCell ⟨X,6,none⟩ x6).setCell ⟨X,7,none⟩ x7).setCell ⟨X,8,none⟩ x8).setCell ⟨X,9,none⟩ x9).setCell ⟨X,10,none⟩ x10).setCell ⟨X,11,none⟩ x11).cell? ⟨H,1,none⟩=some (b))∧(((((((((((((W.setCell ⟨X,0,none⟩ x0).setCell ⟨X,1,none⟩ x1).setCell ⟨X,2,none⟩ x2).setCell ⟨X,3,none⟩ x3).setCell ⟨X,4,none⟩ x4).setCell ⟨X,5,none⟩ x5).setCell ⟨X,6,none⟩ x6).setCell ⟨X,7,none⟩ x7).setCell ⟨X,8,none⟩ x8).setCell ⟨X,9,none⟩ x9).setCell ⟨X,10,none⟩ x10).setCell ⟨X,11,none⟩ x11).cell? ⟨G,0,none⟩=some (rx)∧((((((((((((W.setCell ⟨X,0,none⟩ x0).setCell ⟨X,1,none⟩ x1).setCell ⟨X,2,none⟩ x2).setCell ⟨X,3,none⟩ x3).setCell ⟨X,4,none⟩ x4).setCell ⟨X,5,none⟩ x5).setCell ⟨X,6,none⟩ x6).setCell ⟨X,7,none⟩ x7).setCell ⟨X,8,none⟩ x8).setCell ⟨X,9,none⟩ x9).setCell ⟨X,10,none⟩ x10).setCell ⟨X,11,none⟩ x11).cell? ⟨G,1,none⟩=some (bx))∧((((((((((((W.setCell ⟨X,0,none⟩ x0).setCell ⟨X,1,none⟩ x1).setCell ⟨X,2,none⟩ x2).setCell ⟨X,3,none⟩ x3).setCell ⟨X,4,none⟩ x4).setCell ⟨X,5,none⟩ x5).setCell ⟨X,6,none⟩ x6).setCell ⟨X,7,none⟩ x7).setCell ⟨X,8,none⟩ x8).setCell ⟨X,9,none⟩ x9).setCell ⟨X,10,none⟩ x10).setCell ⟨X,11,none⟩ x11).cell? ⟨J,0,none⟩=some (v0)∧((((((((((((W.setCell ⟨X,0,none⟩ x0).setCell ⟨X,1,none⟩ x1).setCell ⟨X,2,none⟩ x2).setCell ⟨X,3,none⟩ x3).setCell ⟨X,4,none⟩ x4).setCell ⟨X,5,none⟩ x5).setCell ⟨X,6,none⟩ x6).setCell ⟨X,7,none⟩ x7).setCell ⟨X,8,none⟩ x8).setCell ⟨X,9,none⟩ x9).setCell ⟨X,10,none⟩ x10).setCell ⟨X,11,none⟩ x11).cell? ⟨J,1,none⟩=some (v1)∧((((((((((((W.setCell ⟨X,0,none⟩ x0).setCell ⟨X,1,none⟩ x1).setCell ⟨X,2,none⟩ x2).setCell ⟨X,3,none⟩ x3).setCell ⟨X,4,none⟩ x4).setCell ⟨X,5,none⟩ x5).setCell ⟨X,6,none⟩ x6).setCell ⟨X,7,none⟩ x7).setCell ⟨X,8,none⟩ x8).setCell ⟨X,9,none⟩ x9).setCell ⟨X,10,none⟩ x10).setCell ⟨X,11,none⟩ x11).cell? ⟨J,2,none⟩=some (v2)∧((((((((((((W.setCell ⟨X,0,none⟩ x0).setCell ⟨X,1,none⟩ x1).setCell ⟨X,2,none⟩ x2).setCell ⟨X,3,none⟩ x3).setCell ⟨X,4,none⟩ x4).setCell ⟨X,5,none⟩ x5).setCell ⟨X,6,none⟩ x6).setCell ⟨X,7,none⟩ x7).setCell ⟨X,8,none⟩ x8).setCell ⟨X,9,none⟩ x9).setCell ⟨X,10,none⟩ x10).setCell ⟨X,11,none⟩ x11).cell? ⟨J,3,none⟩=some (v3)∧((((((((((((W.setCell ⟨X,0,none⟩ x0).setCell ⟨X,1,none⟩ x1).setCell ⟨X,2,none⟩ x2).setCell ⟨X,3,none⟩ x3).setCell ⟨X,4,none⟩ x4).setCell ⟨X,5,none⟩ x5).setCell ⟨X,6,none⟩ x6).setCell ⟨X,7,none⟩ x7).setCell ⟨X,8,none⟩ x8).setCell ⟨X,9,none⟩ x9).setCell ⟨X,10,none⟩ x10).setCell ⟨X,11,none⟩ x11).cell? ⟨J,4,none⟩=some (v4)∧((((((((((((W.setCell ⟨X,0,none⟩ x0).setCell ⟨X,1,none⟩ x1).setCell ⟨X,2,none⟩ x2).setCell ⟨X,3,none⟩ x3).setCell ⟨X,4,none⟩ x4).setCell ⟨X,5,none⟩ x5).setCell ⟨X,6,none⟩ x6).setCell ⟨X,7,none⟩ x7).setCell ⟨X,8,none⟩ x8).setCell ⟨X,9,none⟩ x9).setCell ⟨X,10,none⟩ x10).setCell ⟨X,11,none⟩ x11).cell? ⟨J,5,none⟩=some (v5)∧((((((((((((W.setCell ⟨X,0,none⟩ x0).setCell ⟨X,1,none⟩ x1).setCell ⟨X,2,none⟩ x2).setCell ⟨X,3,none⟩ x3).setCell ⟨X,4,none⟩ x4).setCell ⟨X,5,none⟩ x5).setCell ⟨X,6,none⟩ x6).setCell ⟨X,7,none⟩ x7).setCell ⟨X,8,none⟩ x8).setCell ⟨X,9,none⟩ x9).setCell ⟨X,10,none⟩ x10).setCell ⟨X,11,none⟩ x11).cell? ⟨J,6,none⟩=some (v6)∧((((((((((((W.setCell ⟨X,0,none⟩ x0).setCell ⟨X,1,none⟩ x1).setCell ⟨X,2,none⟩ x2).setCell ⟨X,3,none⟩ x3).setCell ⟨X,4,none⟩ x4).setCell ⟨X,5,none⟩ x5).setCell ⟨X,6,none⟩ x6).setCell ⟨X,7,none⟩ x7).setCell ⟨X,8,none⟩ x8).setCell ⟨X,9,none⟩ x9).setCell ⟨X,10,none⟩ x10).setCell ⟨X,11,none⟩ x11).cell? ⟨J,7,none⟩=some (v7)∧((((((((((((W.setCell ⟨X,0,none⟩ x0).setCell ⟨X,1,none⟩ x1).setCell ⟨X,2,none⟩ x2).setCell ⟨X,3,none⟩ x3).setCell ⟨X,4,none⟩ x4).setCell ⟨X,5,none⟩ x5).setCell ⟨X,6,none⟩ x6).setCell ⟨X,7,none⟩ x7).setCell ⟨X,8,none⟩ x8).setCell ⟨X,9,none⟩ x9).setCell ⟨X,10,none⟩ x10).setCell ⟨X,11,none⟩ x11).cell? ⟨J,8,none⟩=some (v8)∧((((((((((((W.setCell ⟨X,0,none⟩ x0).setCell ⟨X,1,none⟩ x1).setCell ⟨X,2,none⟩ x2).setCell ⟨X,3,none⟩ x3).setCell ⟨X,4,none⟩ x4).setCell ⟨X,5,none⟩ x5).setCell ⟨X,6,none⟩ x6).setCell ⟨X,7,none⟩ x7).setCell ⟨X,8,none⟩ x8).setCell ⟨X,9,none⟩ x9).setCell ⟨X,10,none⟩ x10).setCell ⟨X,11,none⟩ x11).cell? ⟨J,9,none⟩=some (v9)∧((((((((((((W.setCell ⟨X,0,none⟩ x0).setCell ⟨X,1,none⟩ x1).setCell ⟨X,2,none⟩ x2).setCell ⟨X,3,none⟩ x3).setCell ⟨X,4,none⟩ x4).setCell ⟨X,5,none⟩ x5).setCell ⟨X,6,none⟩ x6).setCell ⟨X,7,none⟩ x7).setCell ⟨X,8,none⟩ x8).setCell ⟨X,9,none⟩ x9).setCell ⟨X,10,none⟩ x10).setCell ⟨X,11,none⟩ x11).cell? ⟨J,10,none⟩=some (v10)∧((((((((((((W.setCell ⟨X,0,none⟩ x0).setCell ⟨X,1,none⟩ x1).setCell ⟨X,2,none⟩ x2).setCell ⟨X,3,none⟩ x3).setCell ⟨X,4,none⟩ x4).setCell ⟨X,5,none⟩ x5).setCell ⟨X,6,none⟩ x6).setCell ⟨X,7,none⟩ x7).setCell ⟨X,8,none⟩ x8).setCell ⟨X,9,none⟩ x9).setCell ⟨X,10,none⟩ x10).setCell ⟨X,11,none⟩ x11).cell? ⟨J,11,none⟩=some (v11):=by
 have k0:∀ j,((((((((((((W.setCell ⟨X,0,none⟩ x0).setCell ⟨X,1,none⟩ x1).setCell ⟨X,2,none⟩ x2).setCell ⟨X,3,none⟩ x3).setCell ⟨X,4,none⟩ x4).setCell ⟨X,5,none⟩ x5).setCell ⟨X,6,none⟩ x6).setCell ⟨X,7,none⟩ x7).setCell ⟨X,8,none⟩ x8).setCell ⟨X,9,none⟩ x9).setCell ⟨X,10,none⟩ x10).setCell ⟨X,11,none⟩ x11).cell? ⟨H,j,none⟩=W.cell? ⟨H,j,none⟩:=fun j=>by
  rw[uV _ _ _ _ (adr_ne hne.1.symm),uV _ _ _ _ (adr_ne hne.1.symm),uV _ _ _ _ (adr_ne hne.1.symm),uV _ _ _ _ (adr_ne hne.1.symm),uV _ _ _ _ (adr_ne hne.1.symm),uV _ _ _ _ (adr_ne hne.1.symm),uV _ _ _ _ (adr_ne hne.1.symm),uV _ _ _ _ (adr_ne hne.1.symm),uV _ _ _ _ (adr_ne hne.1.symm),uV _ _ _ _ (adr_ne hne.1.symm),uV _ _ _ _ (adr_ne hne.1.symm),uV _ _ _ _ (adr_ne hne.1.symm)]
 have k1:∀ j,((((((((((((W.setCell ⟨X,0,none⟩ x0).setCell ⟨X,1,none⟩ x1).setCell ⟨X,2,none⟩ x2).setCell ⟨X,3,none⟩ x3).setCell ⟨X,4,none⟩ x4).setCell ⟨X,5,none⟩ x5).setCell ⟨X,6,none⟩ x6).setCell ⟨X,7,none⟩ x7).setCell ⟨X,8,none⟩ x8).setCell ⟨X,9,none⟩ x9).setCell ⟨X,10,none⟩ x10).setCell ⟨X,11,none⟩ x11).cell? ⟨G,j,none⟩=W.cell? ⟨G,j,none⟩:=fun j=>by
  rw[uV _ _ _ _ (adr_ne hne.2.1.symm),uV _ _ _ _ (adr_ne hne.2.1.symm),uV _ _ _ _ (adr_ne hne.2.1.symm),uV _ _ _ _ (adr_ne hne.2.1.symm),uV _ _ _ _ (adr_ne hne.2.1.symm),uV _ _ _ _ (adr_ne hne.2.1.symm),uV _ _ _ _ (adr_ne hne.2.1.symm),uV _ _ _ _ (adr_ne hne.2.1.symm),uV _ _ _ _ (adr_ne hne.2.1.symm),uV _ _ _ _ (adr_ne hne.2.1.symm),uV _ _ _ _ (adr_ne hne.2.1.symm),uV _ _ _ _ (adr_ne hne.2.1.symm)]
 have k2:∀ j,((((((((((((W.setCell ⟨X,0,none⟩ x0).setCell ⟨X,1,none⟩ x1).setCell ⟨X,2,none⟩ x2).setCell ⟨X,3,none⟩ x3).setCell ⟨X,4,none⟩ x4).setCell ⟨X,5,none⟩ x5).setCell ⟨X,6,none⟩ x6).setCell ⟨X,7,none⟩ x7).setCell ⟨X,8,none⟩ x8).setCell ⟨X,9,none⟩ x9).setCell ⟨X,10,none⟩ x10).setCell ⟨X,11,none⟩ x11).cell? ⟨J,j,none⟩=W.cell? ⟨J,j,none⟩:=fun j=>by
  rw[uV _ _ _ _ (adr_ne hne.2.2.symm),uV _ _ _ _ (adr_ne hne.2.2.symm),uV _ _ _ _ (adr_ne hne.2.2.symm),uV _ _ _ _ (adr_ne hne.2.2.symm),uV _ _ _ _ (adr_ne hne.2.2.symm),uV _ _ _ _ (adr_ne hne.2.2.symm),uV _ _ _ _ (adr_ne hne.2.2.symm),uV _ _ _ _ (adr_ne hne.2.2.symm),uV _ _ _ _ (adr_ne hne.2.2.symm),uV _ _ _ _ (adr_ne hne.2.2.symm),uV _ _ _ _ (adr_ne hne.2.2.symm),uV _ _ _ _ (adr_ne hne.2.2.symm)]
 simp only [k0,k1,k2]
 exact h
theorem s17_cells {w W:World} {r b rx bx:Value} (o:Opn) (g:Grew (((w.alloc (.cells [r,b].toArray 35)).alloc (.cells [rx,bx].toArray 35)).alloc (.cells o.cells.toArray 25)) W):(W.cell? ⟨w.heap.size,0,none⟩=some (r)∧W.cell? ⟨w.heap.size,1,none⟩=some (b))∧(W.cell? ⟨w.heap.size+1,0,none⟩=some (rx)∧W.cell? ⟨w.heap.size+1,1,none⟩=some (bx))∧W.cell? ⟨w.heap.size+1+1,0,none⟩=some (.int .i64 o.id)∧W.cell? ⟨w.heap.size+1+1,1,none⟩=some (.int .i64 o.day)∧W.cell? ⟨w.heap.size+1+1,2,none⟩=some (.int .i64 o.kind)∧W.cell? ⟨w.heap.size+1+1,3,none⟩=some (.int .i64 o.unit)∧W.cell? ⟨w.heap.size+1+1,4,none⟩=some (.int .i64 o.parent)∧W.cell? ⟨w.heap.size+1+1,5,none⟩=some (.int .i64 o.before)∧W.cell? ⟨w.heap.size+1+1,6,none⟩=some (.int .i64 o.level)∧W.cell? ⟨w.heap.size+1+1,7,none⟩=some (.string o.title)∧W.cell? ⟨w.heap.size+1+1,8,none⟩=some (.string o.mark)∧W.cell? ⟨w.heap.size+1+1,9,none⟩=some (.int .i64 o.office)∧W.cell? ⟨w.heap.size+1+1,10,none⟩=some (.int .i64 o.acc)∧W.cell? ⟨w.heap.size+1+1,11,none⟩=some (.int .i64 o.num):=by
 have h:=opn_all o g
 rw[size_allocB,size_allocB] at h
 have g2:Grew ((w.alloc (.cells [r,b].toArray 35)).alloc (.cells [rx,bx].toArray 35)) W:=((uX _).alloc _).trans g
 have g1:Grew (w.alloc (.cells [r,b].toArray 35)) W:=((uX _).alloc _).trans g2
 have x0:=yQ g2 0 _ rfl
 have x1:=yQ g2 1 _ rfl
 rw[size_allocB] at x0 x1
 exact⟨⟨yQ g1 0 _ rfl,yQ g1 1 _ rfl⟩,⟨x0,x1⟩,h⟩
theorem ne_three {h n:Nat} (hl:h+1+1<n):h≠n∧h+1≠n∧h+1+1≠n:=by omega
theorem twelve_grow {W W2:World} {Y:Nat} {v0 v1 v2 v3 v4 v5 v6 v7 v8 v9 v10 v11:Value} (h:W.cell? ⟨Y,0,none⟩=some (v0)∧W.cell? ⟨Y,1,none⟩=some (v1)∧W.cell? ⟨Y,2,none⟩=some (v2)∧W.cell? ⟨Y,3,none⟩=some (v3)∧W.cell? ⟨Y,4,none⟩=some (v4)∧W.cell? ⟨Y,5,none⟩=some (v5)∧W.cell? ⟨Y,6,none⟩=some (v6)∧W.cell? ⟨Y,7,none⟩=some (v7)∧W.cell? ⟨Y,8,none⟩=some (v8)∧W.cell? ⟨Y,9,none⟩=some (v9)∧W.cell? ⟨Y,10,none⟩=some (v10)∧W.cell? ⟨Y,11,none⟩=some (v11)) (g:Grew W W2):W2.cell? ⟨Y,0,none⟩=some (v0)∧W2.cell? ⟨Y,1,none⟩=some (v1)∧W2.cell? ⟨Y,2,none⟩=some (v2)∧W2.cell? ⟨Y,3,none⟩=some (v3)∧W2.cell? ⟨Y,4,none⟩=some (v4)∧W2.cell? ⟨Y,5,none⟩=some (v5)∧W2.cell? ⟨Y,6,none⟩=some (v6)∧W2.cell? ⟨Y,7,none⟩=some (v7)∧W2.cell? ⟨Y,8,none⟩=some (v8)∧W2.cell? ⟨Y,9,none⟩=some (v9)∧W2.cell? ⟨Y,10,none⟩=some (v10)∧W2.cell? ⟨Y,11,none⟩=some (v11):=by
 obtain⟨h0,h1,h2,h3,h4,h5,h6,h7,h8,h9,h10,h11⟩:=h
 exact⟨uQ g h0,uQ g h1,uQ g h2,uQ g h3,uQ g h4,uQ g h5,uQ g h6,uQ g h7,uQ g h8,uQ g h9,uQ g h10,uQ g h11⟩
theorem new_twelve {W W2:World} {v0 v1 v2 v3 v4 v5 v6 v7 v8 v9 v10 v11:Value} (g:Grew (W.alloc (.cells #[v0,v1,v2,v3,v4,v5,v6,v7,v8,v9,v10,v11] 25)) W2):W2.cell? ⟨W.heap.size,0,none⟩=some (v0)∧W2.cell? ⟨W.heap.size,1,none⟩=some (v1)∧W2.cell? ⟨W.heap.size,2,none⟩=some (v2)∧W2.cell? ⟨W.heap.size,3,none⟩=some (v3)∧W2.cell? ⟨W.heap.size,4,none⟩=some (v4)∧W2.cell? ⟨W.heap.size,5,none⟩=some (v5)∧W2.cell? ⟨W.heap.size,6,none⟩=some (v6)∧W2.cell? ⟨W.heap.size,7,none⟩=some (v7)∧W2.cell? ⟨W.heap.size,8,none⟩=some (v8)∧W2.cell? ⟨W.heap.size,9,none⟩=some (v9)∧W2.cell? ⟨W.heap.size,10,none⟩=some (v10)∧W2.cell? ⟨W.heap.size,11,none⟩=some (v11):=⟨yQ g 0 _ rfl,yQ g 1 _ rfl,yQ g 2 _ rfl,yQ g 3 _ rfl,yQ g 4 _ rfl,yQ g 5 _ rfl,yQ g 6 _ rfl,yQ g 7 _ rfl,yQ g 8 _ rfl,yQ g 9 _ rfl,yQ g 10 _ rfl,yQ g 11 _ rfl⟩
set_option maxHeartbeats 16000000 in
set_option maxRecDepth 100000 in
theorem opposes_of (t x:Tr) (o:Opn) (rv bv ry bY:Value) (w:World) (hE:Env w) (hr:SlI w rv t.roots) (hb:SlBr w bv t.brs) (hrx:SlI w ry x.roots) (hbx:SlBr w bY x.brs) (hkw:(Lit.int .i64 o.kind).wf=true) (hA:∀ W,Grew w W→Calls Tryz.prog 11 #[] W fun e w'=>e=.returned (.bool true)∧Grew W w'):Calls Tryz.prog 5 #[.agg #[rv,bv],.agg #[ry,bY],o.agg] w fun e w'=>e=.returned (.bool true)∧Grew w w':=by
 have KA:=uZ hA
 have kW:=fun W (hW:Grew w W)=>fewLaw t o rv bv W (hr.mono hW) (hb.mono hW)
 have KX:=uZ (fun W (hW:Grew w W)=>few19_m x.roots x.brs ry bY W (hrx.mono hW) (hbx.mono hW))
 have KC:=uZ (fun W (hW:Grew w W) (hf:FewTM t.roots t.brs)=>cpTr t rv bv W (hr.mono hW) (hb.mono hW) hf.br hf.rs)
 have KCX:=uZ (fun W (hW:Grew w W) (hf:FewTM x.roots x.brs)=>cpTr x ry bY W (hrx.mono hW) (hbx.mono hW) hf.br hf.rs)
 have kO:=fun W rx bx (hW:Grew w W) (ht:TrOk W rx bx t) (hf:FewTM t.roots t.brs)=>rOpposite t o rx bx W (hE.mono hW) ht.1 ht.2 hf.br hf.rs hkw
 have kR:=fun W (hW:Grew w W) (hf:FewTM t.roots t.brs) (ho:FewO o)=>refOpposite t o rv bv W (hr.mono hW) (hb.mono hW) hf.br hf.rs (fun b hb=>by obtain⟨i,hi,rfl⟩:=List.mem_iff_getElem.1 hb;exact(hf.2.2 i hi).2) ho.2
 have kCH:=fun W ra ba rb bb (hW:Grew w W) (h1:TrOk W ra ba t) (h2:TrOk W rb bb x) (hf:FewTM t.roots t.brs) (hg:FewTM x.roots x.brs)=>(rChanged t x ra ba rb bb W (hE.mono hW) h1.1 h1.2 h2.1 h2.2 hf.br hg.br hf.rs hg.rs).mono fun _ _ h=>chg_is h
 have kRC:=fun W (hW:Grew w W) (hf:FewTM t.roots t.brs) (hg:FewTM x.roots x.brs)=>refChanged t x rv bv ry bY W (hr.mono hW) (hb.mono hW) (hrx.mono hW) (hbx.mono hW) hf.br hg.br hf.rs hg.rs hf.marks hg.marks
 generalize chgR t x=RC at kCH kRC
 obtain⟨LC,nc⟩:=RC
 have KCH:=uZ kCH
 have KRC:=uZ kRC
 generalize oppR t o=RO at kO kR
 obtain⟨PP,mm⟩:=RO
 unfold RetOp at kO kR
 obtain⟨p0,p1,p2,p3,p4,p5,p6,p7,p8,p9,p10,p11⟩:=PP
 clear kCH kRC hE
 obtain⟨Ar,cr,rfl,-⟩:=hr.open_
 obtain⟨Ab,cb,rfl,-⟩:=hb.open_
 obtain⟨Xr,dr,rfl,-⟩:=hrx.open_
 obtain⟨Xb,db,rfl,-⟩:=hbx.open_
 have HB:=uZ (fun(r b rx bx:Value) W (g:Grew (((w.alloc (.cells [r,b].toArray 35)).alloc (.cells [rx,bx].toArray 35)).alloc (.cells o.cells.toArray 25)) W)=>s17_cells o g)
 generalize hFO:FewO o=FO at kW kR
 obtain⟨i,d,k,u,p,b,l,tt,m,x9,x10,x11⟩:=o
 unfold Opn.agg at kW kO kR ⊢
 unfold Opn.cells at HB
 dsimp only at kW kO kR HB ⊢
 have KW:=uZ kW
 have KO:=uZ kO
 have KR:=uZ kR
 clear kW kO kR hr hb hrx hbx hA hFO
 go_enter Tryz.func5,Tryz.ntmps5
 go_wp2_with fail
 refine(KA.out _ ((((uX w).alloc _).alloc _).alloc _)).mono ?_
 rintro e wa ⟨rfl,ga⟩
 have hh:=HB.out _ _ _ _ wa ga
 have HG1:=uZ (((((uX w).alloc _).alloc _).alloc _).trans ga)
 have HS1:=uZ hh
 clear ga HB
 obtain⟨⟨r0,b0⟩,⟨r1,b1⟩,a0,a1,a2,a3,a4,a5,a6,a7,a8,a9,a10,a11⟩:=hh
 dsimp only
 go_wp2_with fail
 refine(KW.out _ HG1.out).mono ?_
 rintro e wb ⟨q,rfl,hq,gb⟩
 have HS2:=uZ (s17_grow HS1.out gb)
 have HG2:=uZ (HG1.out.trans gb)
 have HQ:=uZ hq
 clear hq gb HG1 HS1 r0 b0 r1 b1 a0 a1 a2 a3 a4 a5 a6 a7 a8 a9 a10 a11
 dsimp only
 cases q
 ·clear HQ
  go_wp2_with fail
  refine(KA.out _ HG2.out).mono ?_
  rintro e wz ⟨rfl,g3⟩
  have HG3z:=uZ (HG2.out.trans g3)
  clear g3
  dsimp only
  go_wp2
  go_ret
  exact⟨rfl,HG3z.out⟩
 have HF:=uZ (HQ.out rfl).1
 have HFO:=uZ (HQ.out rfl).2
 clear HQ
 obtain⟨-,⟨r1,b1⟩,-⟩:=HS2.out
 go_wp2_with fail
 refine(KX.out _ HG2.out).mono ?_
 rintro e wc1 ⟨q,rfl,hq,gb⟩
 have HS0:=uZ (s17_grow HS2.out gb)
 have HG4:=uZ (HG2.out.trans gb)
 have HQ:=uZ hq
 clear hq gb HG2 HS2 r1 b1
 dsimp only
 cases q
 ·clear HQ
  go_wp2_with fail
  refine(KA.out _ HG4.out).mono ?_
  rintro e wz ⟨rfl,g3⟩
  have HG3z:=uZ (HG4.out.trans g3)
  clear g3
  dsimp only
  go_wp2
  go_ret
  exact⟨rfl,HG3z.out⟩
 have HFX:=uZ (HQ.out rfl)
 clear HQ
 go_wp2_with fail
 have HL1:=uZ (World.block_lt_of_cell? _ _ HS0.out.2.2.1:w.heap.size+1+1<wc1.heap.size)
 have HN1:=uZ (ne_three HL1.out)
 go_cut [7,8] from 30 to 36 (fun s7 s8 wx=>OpCut wc1 mm [.int .i64 p0,.int .i64 p1,.int .i64 p2,.int .i64 p3,.int .i64 p4,.int .i64 p5,.int .i64 p6,.string p7,.string p8,.int .i64 p9,.int .i64 p10,.int .i64 p11] s7 s8 wx)
 case first =>
  go_region_held3 (fun W=>(W.cell? ⟨w.heap.size,0,none⟩=some (.slice Ar t.roots.length cr)∧W.cell? ⟨w.heap.size,1,none⟩=some (.slice Ab t.brs.length cb))∧(W.cell? ⟨w.heap.size+1,0,none⟩=some (.slice Xr x.roots.length dr)∧W.cell? ⟨w.heap.size+1,1,none⟩=some (.slice Xb x.brs.length db))∧W.cell? ⟨w.heap.size+1+1,0,none⟩=some (.int .i64 i)∧W.cell? ⟨w.heap.size+1+1,1,none⟩=some (.int .i64 d)∧W.cell? ⟨w.heap.size+1+1,2,none⟩=some (.int .i64 k)∧W.cell? ⟨w.heap.size+1+1,3,none⟩=some (.int .i64 u)∧W.cell? ⟨w.heap.size+1+1,4,none⟩=some (.int .i64 p)∧W.cell? ⟨w.heap.size+1+1,5,none⟩=some (.int .i64 b)∧W.cell? ⟨w.heap.size+1+1,6,none⟩=some (.int .i64 l)∧W.cell? ⟨w.heap.size+1+1,7,none⟩=some (.string tt)∧W.cell? ⟨w.heap.size+1+1,8,none⟩=some (.string m)∧W.cell? ⟨w.heap.size+1+1,9,none⟩=some (.int .i64 x9)∧W.cell? ⟨w.heap.size+1+1,10,none⟩=some (.int .i64 x10)∧W.cell? ⟨w.heap.size+1+1,11,none⟩=some (.int .i64 x11)) (first|(with_reducible exact s17_chain HN3.out (s17_grow HS0.out GB2.out))|(with_reducible exact s17_chain HN2.out (s17_grow HS0.out GB2.out))|exact s17_grow HS0.out (by repeat (first|exact uX _|exact GB2.out|exact GB1.out|refine uJ ?_|refine uU ?_ _))) (first|(go_at_call 19;refine(KC.out _ (HG4.out.trans b_22) HF.out).mono ?_;rintro e w1 ⟨rv1,bv1,rfl,ht1,g1⟩;have GB1:=uZ (show Grew wc1 w1 from uY b_22 g1);obtain⟨A1,k1,rfl,-⟩:=SlI.open_ ht1.1;obtain⟨A2,k2,rfl,-⟩:=SlBr.open_ ht1.2;have HT1:=uZ ht1;have HN2:=uZ (ne_three (Nat.lt_of_lt_of_le HL1.out GB1.out.size));(first|have Na1:=uZ (show Grew (wc1.alloc (.cells [.int .i64 0,.int .i64 0,.int .i64 0,.int .i64 0,.int .i64 0,.int .i64 0,.int .i64 0,.string ⟨#[]⟩,.string ⟨#[]⟩,.int .i64 0,.int .i64 0,.int .i64 0].toArray 25)) w1 from uY (uX _).drew g1)|have Na1:=uZ (show Grew (wc1.alloc (.cells [.int .i64 0,.int .i64 0,.int .i64 0,.int .i64 0,.int .i64 0,.int .i64 0,.int .i64 0,.string ⟨#[]⟩,.string ⟨#[]⟩,.int .i64 0,.int .i64 0,.int .i64 0].toArray 25)) w1 from uY (uX _) g1)|skip);clear ht1 g1)|(go_at_call 23;refine(KO.out _ _ _ (HG4.out.trans (by repeat (first|exact uX _|exact GB1.out|refine uJ ?_|refine uU ?_ _))) (HT1.out.mono b_22) HF.out).mono ?_;rintro e w2 ⟨rfl,g2⟩;have GX:=uZ (show Grew w1 w2 from uY b_22 g2);have GB2:=uZ (GB1.out.trans GX.out);(try have PA:=uK (Na1.out.trans GX.out) (heap_allocE (a:=wc1) (p:=(.cells [.int .i64 0,.int .i64 0,.int .i64 0,.int .i64 0,.int .i64 0,.int .i64 0,.int .i64 0,.string ⟨#[]⟩,.string ⟨#[]⟩,.int .i64 0,.int .i64 0,.int .i64 0].toArray 25)) rfl));(first|have PB:=uK (show Grew (w1.alloc (.cells [.int .i64 0,.int .i64 0,.int .i64 0,.int .i64 0,.int .i64 0,.int .i64 0,.int .i64 0,.string ⟨#[]⟩,.string ⟨#[]⟩,.int .i64 0,.int .i64 0,.int .i64 0].toArray 25)) w2 from uY (uX _).drew g2) (heap_allocE (a:=w1) (p:=(.cells [.int .i64 0,.int .i64 0,.int .i64 0,.int .i64 0,.int .i64 0,.int .i64 0,.int .i64 0,.string ⟨#[]⟩,.string ⟨#[]⟩,.int .i64 0,.int .i64 0,.int .i64 0].toArray 25)) rfl)|have PB:=uK (show Grew (w1.alloc (.cells [.int .i64 0,.int .i64 0,.int .i64 0,.int .i64 0,.int .i64 0,.int .i64 0,.int .i64 0,.string ⟨#[]⟩,.string ⟨#[]⟩,.int .i64 0,.int .i64 0,.int .i64 0].toArray 25)) w2 from uY (uX _) g2) (heap_allocE (a:=w1) (p:=(.cells [.int .i64 0,.int .i64 0,.int .i64 0,.int .i64 0,.int .i64 0,.int .i64 0,.int .i64 0,.string ⟨#[]⟩,.string ⟨#[]⟩,.int .i64 0,.int .i64 0,.int .i64 0].toArray 25)) rfl)|skip);(try (have PAz:=PA;have hEX:∃ XX,XX=wc1.heap.size:=⟨_,rfl⟩;obtain⟨XX,hXX⟩:=hEX;rw[← hXX] at PAz ⊢;have PX:=zo_facts PAz;obtain⟨⟨pa0,pa1,pa2,pa3,pa4,pa5,pa6,pa7,pa8,pa9,pa10,pa11⟩,paz⟩:=PX;have paz0:=paz 0;have paz1:=paz 1;have paz2:=paz 2;have paz3:=paz 3;have paz4:=paz 4;have paz5:=paz 5;have paz6:=paz 6;have paz7:=paz 7;have paz8:=paz 8;have paz9:=paz 9;have paz10:=paz 10;have paz11:=paz 11;clear paz;have HXX:=uZ hXX;have HN3:=uZ (show w.heap.size≠XX∧w.heap.size+1≠XX∧w.heap.size+1+1≠XX from hXX▸HN1.out);clear hXX PA));(try (have pbf:=zo_facts PB;obtain⟨⟨pb0,pb1,pb2,pb3,pb4,pb5,pb6,pb7,pb8,pb9,pb10,pb11⟩,pbz⟩:=pbf;have pbz0:=pbz 0;have pbz1:=pbz 1;have pbz2:=pbz 2;have pbz3:=pbz 3;have pbz4:=pbz 4;have pbz5:=pbz 5;have pbz6:=pbz 6;have pbz7:=pbz 7;have pbz8:=pbz 8;have pbz9:=pbz 9;have pbz10:=pbz 10;have pbz11:=pbz 11;clear pbz));clear g2))
  all_goals go_wp2_with fail
  all_goals go_meet
  all_goals with_reducible first|exact op_meet2 GB2.out|exact op_meet PAz (Nat.le_of_eq HXX.out.symm) GB2.out|exact op_meet PB GB1.out.size GB2.out
 case rest =>
  obtain⟨Y,rfl,rfl,hO,hgO⟩:=hcut
  have HO:=uZ (show wc.cell? ⟨Y,0,none⟩=some (.int .i64 p0)∧wc.cell? ⟨Y,1,none⟩=some (.int .i64 p1)∧wc.cell? ⟨Y,2,none⟩=some (.int .i64 p2)∧wc.cell? ⟨Y,3,none⟩=some (.int .i64 p3)∧wc.cell? ⟨Y,4,none⟩=some (.int .i64 p4)∧wc.cell? ⟨Y,5,none⟩=some (.int .i64 p5)∧wc.cell? ⟨Y,6,none⟩=some (.int .i64 p6)∧wc.cell? ⟨Y,7,none⟩=some (.string p7)∧wc.cell? ⟨Y,8,none⟩=some (.string p8)∧wc.cell? ⟨Y,9,none⟩=some (.int .i64 p9)∧wc.cell? ⟨Y,10,none⟩=some (.int .i64 p10)∧wc.cell? ⟨Y,11,none⟩=some (.int .i64 p11) from⟨hO 0 _ rfl,hO 1 _ rfl,hO 2 _ rfl,hO 3 _ rfl,hO 4 _ rfl,hO 5 _ rfl,hO 6 _ rfl,hO 7 _ rfl,hO 8 _ rfl,hO 9 _ rfl,hO 10 _ rfl,hO 11 _ rfl⟩)
  replace HS0:=uZ (s17_grow HS0.out hgO)
  replace HG4:=uZ (HG4.out.trans hgO)
  clear hO hgO HL1 HN1 KO
  obtain⟨⟨r0,b0⟩,-,a0,a1,a2,a3,a4,a5,a6,a7,a8,a9,a10,a11⟩:=HS0.out
  go_wp2_with fail
  refine(KR.out _ HG4.out HF.out HFO.out).mono ?_
  rintro e w3 ⟨rfl,g3⟩
  have g3a:=g3.alloc (.cells #[.int .i64 p0,.int .i64 p1,.int .i64 p2,.int .i64 p3,.int .i64 p4,.int .i64 p5,.int .i64 p6,.string p7,.string p8,.int .i64 p9,.int .i64 p10,.int .i64 p11] 25)
  have HO3:=uZ (twelve_grow HO.out g3a)
  have HZ3:=uZ (new_twelve (uX (w3.alloc (.cells #[.int .i64 p0,.int .i64 p1,.int .i64 p2,.int .i64 p3,.int .i64 p4,.int .i64 p5,.int .i64 p6,.string p7,.string p8,.int .i64 p9,.int .i64 p10,.int .i64 p11] 25))))
  have HS3:=uZ (s17_grow HS0.out g3a)
  have HG5:=uZ (HG4.out.trans g3a)
  clear g3 g3a HO HS0 HG4 r0 b0 a0 a1 a2 a3 a4 a5 a6 a7 a8 a9 a10 a11 KR
  dsimp only
  go_wp2_with fail
  generalize w3.alloc (.cells #[.int .i64 p0,.int .i64 p1,.int .i64 p2,.int .i64 p3,.int .i64 p4,.int .i64 p5,.int .i64 p6,.string p7,.string p8,.int .i64 p9,.int .i64 p10,.int .i64 p11] 25)=wD at HO3 HZ3 HS3 HG5 ⊢
  generalize w3.heap.size=Z at HZ3 ⊢
  have HL5:=uZ (show(wD.cell? ⟨w.heap.size,0,none⟩=some (.slice Ar t.roots.length cr)∧wD.cell? ⟨w.heap.size,1,none⟩=some (.slice Ab t.brs.length cb))∧wD.cell? ⟨w.heap.size+1,0,none⟩=some (.slice Xr x.roots.length dr)∧wD.cell? ⟨w.heap.size+1,1,none⟩=some (.slice Xb x.brs.length db) from⟨HS3.out.1,HS3.out.2.1⟩)
  go_region_held3 (fun W=>(W.cell? ⟨w.heap.size,0,none⟩=some (.slice Ar t.roots.length cr)∧W.cell? ⟨w.heap.size,1,none⟩=some (.slice Ab t.brs.length cb))∧W.cell? ⟨w.heap.size+1,0,none⟩=some (.slice Xr x.roots.length dr)∧W.cell? ⟨w.heap.size+1,1,none⟩=some (.slice Xb x.brs.length db)) (exact four_grow HL5.out (by repeat (first|exact uX _|exact G8.out|exact G7.out|exact G6.out|refine uJ ?_|refine uU ?_ _))) (first|(go_at_call 19;have hxx:=G6;clear hxx;refine(KCX.out _ (HG5.out.trans (by repeat (first|exact uX _|exact G6.out|refine uJ ?_|refine uU ?_ _))) HFX.out).mono ?_;rintro e w7 ⟨rv7,bv7,rfl,ht7,g7⟩;have G67:=uZ (show Grew w6 w7 from uY b_22 g7);have G7:=uZ (G6.out.trans G67.out);obtain⟨Ax7,kx7,rfl,-⟩:=SlI.open_ ht7.1;obtain⟨Bx7,lx7,rfl,-⟩:=SlBr.open_ ht7.2;have HT7:=uZ ht7;clear ht7 g7)|(go_at_call 19;refine(KC.out _ (HG5.out.trans b_22) HF.out).mono ?_;rintro e w6 ⟨rv6,bv6,rfl,ht6,g6⟩;have G6:=uZ (show Grew wD w6 from uY b_22 g6);obtain⟨Ax6,kx6,rfl,-⟩:=SlI.open_ ht6.1;obtain⟨Bx6,lx6,rfl,-⟩:=SlBr.open_ ht6.2;have HT6:=uZ ht6;clear ht6 g6)|(go_at_call 25;refine(KCH.out _ _ _ _ _ (HG5.out.trans b_18) (HT6.out.mono (by repeat (first|exact uX _|exact G67.out|refine uJ ?_|refine uU ?_ _))) (HT7.out.mono b_22) HF.out HFX.out).mono ?_;rintro e w8 ⟨v8,rfl,hv8,g8⟩;have G8:=uZ (show Grew wD w8 from uY b_18 g8);have HV8:=uZ hv8;clear hv8 g8))
  clear G6 G67 G7 HT6 HT7 HL5
  obtain⟨⟨r0,b0⟩,⟨r1,b1⟩,-⟩:=s17_grow HS3.out G8.out
  have HG8:=uZ (HG5.out.trans G8.out)
  go_wp2_with fail
  refine(KRC.out _ HG8.out HF.out HFX.out).mono ?_
  rintro e w9 ⟨v9,rfl,hv9,g9⟩
  have HV9:=uZ hv9
  have HV8b:=uZ (SlI.mono HV8.out g9)
  have HG9:=uZ (HG8.out.trans g9)
  obtain⟨o0,o1,o2,o3,o4,o5,o6,o7,o8,o9,o10,o11⟩:=twelve_grow HO3.out (G8.out.trans g9)
  obtain⟨z0,z1,z2,z3,z4,z5,z6,z7,z8,z9,z10,z11⟩:=twelve_grow HZ3.out (G8.out.trans g9)
  clear hv9 g9 r0 b0 r1 b1 HS3 HO3 HZ3 HV8 KC KCX KX KW KA KCH KRC G8 HG5 HG8
  dsimp only
  go_wp2_with fail
  refine(sameL LC _ _ _ HV8b.out HV9.out).mono ?_
  rintro e w10 ⟨rfl,g10⟩
  have HG10:=uZ (HG9.out.trans g10)
  clear g10
  dsimp only
  go_wp2
  go_ret
  exact⟨rfl,HG10.out⟩
end Go.Proofs.YtafncfomiolmgaaGreatDoor