/- Lemmas on what the functions of the program and of the library compute: Lap, ConB, Cmp, Ch, Lcm, RSa, RR1, Rf1. The conditions stand at each. -/
import Derived.Test.YtafncfomiolmgaaGreatDoorQ29
import Derived.Test.YtafncfomiolmgaaGreatDoorQ30
import Derived.Test.YtafncfomiolmgaaGreatDoorQ31
import Derived.Test.YtafncfomiolmgaaGreatDoorQ7
import Derived.Test.YtafncfomiolmgaaGreatDoorQ1
import Derived.Test.YtafncfomiolmgaaGreatDoorQ3
import Derived.Test.YtafncfomiolmgaaGreatDoorQ15
import Derived.Test.YtafncfomiolmgaaGreatDoorQ10
import Derived.Sort.OwnSortedInts
import Derived.Test.YtafncfomiolmgaaGreatDoorQ24
import Derived.Test.YtafncfomiolmgaaGreatDoorQ26
import Derived.Maps.AppendAt
import Derived.Test.YtafncfomiolmgaaGreatDoorQ4
import Derived.Test.YtafncfomiolmgaaGreatDoorQ8
import Derived.Deep.CutRange
import Derived.Deep.RegionHeld3
import Derived.BigQuiet
import Derived.Test.YtafncfomiolmgaaGreatDoorQ22
import Derived.Test.YtafncfomiolmgaaGreatDoorQ9
import Derived.Test.YtafncfomiolmgaaGreatDoorQ28
import Derived.Test.YtafncfomiolmgaaGreatDoorQ25
namespace Go.Proofs.YtafncfomiolmgaaGreatDoor
open Go.RowKit
theorem rd_setT {W:World} {X k:Nat} {t:TypeId} {v x y:Value} {cs:List Value} (hX:W.heap[X]? = some (.cells #[.slice none 0 0,.slice none 0 0] t (0,0))) (h:Rd W k v cs) (hk:0<k) (hi:∀ c,cs[0]? = some c→c≠.slice none 0 0):Rd ((W.setCell ⟨X,0,none⟩ x).setCell ⟨X,1,none⟩ y) k v cs:=by
 obtain⟨A,n,c,rfl,hl,hn,hc,h0⟩:=h
 refine⟨A,n,c,rfl,hl,hn,hc,fun hpos=>?_⟩
 obtain⟨b,off,rfl,hb,hcell⟩:=h0 hpos
 have hne:b≠X:=by
  intro e
  subst e
  have hlen:0<cs.length:=by
   rw[hl]
   exact Nat.mul_pos hpos hk
  have h1:=hcell 0 cs[0] (by rw[List.getElem?_eq_getElem hlen])
  have h2:=hi cs[0] (by rw[List.getElem?_eq_getElem hlen])
  simp[World.cell?,hX] at h1
  match off,h1 with
  | 0,h1=>simp at h1;exact h2 h1.symm
  | 1,h1=>simp at h1;exact h2 h1.symm
  | n+2,h1=>simp at h1
 refine⟨b,off,rfl,by simpa using hb,fun j u hu=>?_⟩
 rw[uV _ _ _ _ (adr_ne hne.symm),uV _ _ _ _ (adr_ne hne.symm)]
 exact hcell j u hu
theorem TrOk.setT {W:World} {X:Nat} {ty:TypeId} {rv bv x y:Value} {t:Tr} (hX:W.heap[X]? = some (.cells #[.slice none 0 0,.slice none 0 0] ty (0,0))) (h:TrOk W rv bv t):TrOk ((W.setCell ⟨X,0,none⟩ x).setCell ⟨X,1,none⟩ y) rv bv t:=by
 have hI:∀(l:List Int) c,(l.flatMap oneI)[0]? = some c→c≠.slice none 0 0:=fun l c hc=>by
  cases l with
  | nil=>cases hc
  | cons a r =>
   have:some (Value.int .i64 a)=some c:=hc
   injection this with this
   rw[← this]
   intro e
   cases e
 obtain⟨h1,cs,h2,h3,h4⟩:=h
 refine⟨rd_setT hX h1 b_37 (hI _),cs,rd_setT hX h2 b_37 (fun c hc=>?_),h3,fun i hi hi'=>⟨(h4 i hi hi').1,rd_setT hX (h4 i hi hi').2 b_37 (hI _)⟩⟩
 cases cs with
 | nil=>cases hc
 | cons a r =>
  have:some (Value.int .i64 a.id)=some c:=hc
  injection this with this
  rw[← this]
  intro e
  cases e
def ApCut (WA:World) (R:Tr × Int) (s2 s3:Value) (wx:World):Prop:=∃ X rv bv,s2=.pointer (some ⟨X,0,none⟩)∧s3=.int .i64 R.2∧wx.cell? ⟨X,0,none⟩=some rv∧wx.cell? ⟨X,1,none⟩=some bv∧TrOk wx rv bv R.1∧Grew WA wx
theorem ap_meet {WA W:World} {R:Tr × Int} {X:Nat} {rv bv:Value} (hX:W.heap[X]? = some (.cells #[.slice none 0 0,.slice none 0 0] 35 (0,0))) (hlo:WA.heap.size≤X) (hG:Grew WA W) (h:TrOk W rv bv R.1):ApCut WA R (.pointer (some ⟨X,0,none⟩)) (.int .i64 R.2) ((W.setCell ⟨X,0,none⟩ rv).setCell ⟨X,1,none⟩ bv):=by
 have c0:W.cell? ⟨X,0,none⟩=some (.slice none 0 0):=by simp[World.cell?,hX]
 have c1:W.cell? ⟨X,1,none⟩=some (.slice none 0 0):=by simp[World.cell?,hX]
 obtain⟨q0,q1⟩:=res_cells (v0:=rv) (v1:=bv) c0 c1
 exact⟨X,rv,bv,rfl,rfl,q0,q1,h.setT hX,(hG.setCell hlo _).setCell hlo _⟩
theorem ap_meet2 {WA W:World} {R:Tr × Int} {rv bv:Value} (hG:Grew WA W) (h:TrOk W rv bv R.1):ApCut WA R (.pointer (some ⟨W.heap.size,0,none⟩)) (.int .i64 R.2) (W.alloc (.cells #[rv,bv] 35)) :=
 ⟨_,rv,bv,rfl,rfl,yQ (uX _) 0 _ rfl,yQ (uX _) 1 _ rfl,h.mono ((uX _).alloc _),hG.alloc _⟩
end Go.Proofs.YtafncfomiolmgaaGreatDoor
namespace Go.Proofs.YtafncfomiolmgaaGreatDoor
open Go.RowKit
theorem zerosG (w:World) (n:Nat) (h0:0<n) (hn:n≤1000000) :
  ∃(G:Nat) (Z:List Value) (w1:World),(∀ ty,(Builtin.append_ #[33,3] ty #[.slice none 0 0,.int .i64 (n:Int)]).run Tryz.prog w=.ok (.slice (some ⟨w.heap.size,0,none⟩) n G) w1) ∧
   n≤G∧G≤maxLen∧w1.heap[w.heap.size]? = some (.cells Z.toArray 53 (0,0))∧Z.length=G*6∧Grew w w1:=by
 obtain⟨i0,hi0,hz0,hz1,hz2⟩:=info_parts cinfoB
 have hold:(Builtin.firstCells i0.size 0 (.slice none 0 0)).run Tryz.prog w.drew=.ok ([]:List Value).toArray w.drew:=by
  simp[Builtin.firstCells]
 have h:=fun ty=>Lib.run_append_grow_zeros w 33 3 ty 53 i0 _ .i64 .i64 Tryz.underlying33 Tryz.underlying3 hi0 hz0 none 0 0 [] hold n h0 b_37 b_37 b_37 (by rw[hz2];omega) (by rw[hz2,Nat.zero_add];exact growslice_fits h0 b_37)
 simp only [Nat.zero_add] at h
 obtain⟨ZC,hZC⟩:∃ ZC,ZC=(Value.agg #[.int .i64 0,.int .i64 0,.int .i64 0,.string ⟨#[]⟩,.string ⟨#[]⟩,.slice none 0 0]).cells:=⟨_,rfl⟩
 have hZs:ZC.size=6:=by rw[hZC];rfl
 rw[← hZC] at h
 refine⟨_,(Builtin.zeroCells ZC n++Builtin.zeroCells ZC (grownCap w n 0 53-n)).toList,_,h,grownCap_ge w _ _ _,grownCap_le_maxLen w n 0 _ b_34,?_,?_,(uX w).drew.alloc _⟩
 ·have:=heap_alloc_last w.drew (.cells (([]:List Value).toArray++Builtin.zeroCells ZC n++Builtin.zeroCells ZC (grownCap w n 0 53-n)) 53 (0,0))
  rw[show((Builtin.zeroCells ZC n++Builtin.zeroCells ZC (grownCap w n 0 53-n)).toList).toArray=([]:List Value).toArray++Builtin.zeroCells ZC n++Builtin.zeroCells ZC (grownCap w n 0 53-n) by simp]
  exact this
 ·have h9:=grownCap_ge w n 0 53
  simp only [Builtin.zeroCells,hZs,Array.toList_append,List.length_append,Array.length_toList,Array.size_map,Array.size_range]
  rw[← Nat.add_mul]
  generalize grownCap w n 0 53=X at h9 ⊢
  rw[show n+(X-n)=X by omega]
set_option maxHeartbeats 2000000 in
theorem growNil (n:Nat) (w:World) (hn:n≤1000000) :
  Calls Tryz.prog 106 #[.slice none 0 0,.int .i64 n] w fun e w'=>∃ v,e=.returned v∧w'.ownsRow w.heap.size 53 6 v 0 []∧Grew w w':=by
 by_cases h0:n=0
 ·subst h0
  go_enter Tryz.func106,Tryz.ntmps106
  go_wp2
  go_ret
  exact⟨_,rfl,World.ownsRow_nil _ _ _ _,uX w⟩
 ·obtain⟨G,Z,w1,hrun,hG1,hG2,hh,hZ,hg⟩:=zerosG w n b_37 hn
  unfold maxLen at hG2
  have h1:¬ ((n:Int)<0):=by omega
  have h2:(0:Int)<(n:Int):=by omega
  have h3:0<n:=by omega
  have HR:=uZ (show w1.ownsRow w.heap.size 53 6 (.slice (some ⟨w.heap.size,0,none⟩) 0 G) 0 [] from⟨rfl,.inr ⟨w.heap.size,G,Z.toArray,rfl,Nat.le_refl _,hh,Nat.zero_le _,by unfold maxLen;omega,by simpa using hZ,by simp⟩⟩)
  have HG:=uZ hg
  clear hh hZ hg
  go_enter Tryz.func106,Tryz.ntmps106
  go_wp2_with (at_builtin;refine Lib.wpList_append_run _ rfl _ _ _ _ rfl _ _ rfl rfl _ _ (hrun _) ?_)
  go_ret
  exact⟨_,rfl,HR.out,HG.out⟩
set_option maxHeartbeats 4000000 in
set_option maxRecDepth 100000 in
theorem concatB (la lb:List BrC) (va vb:Value) (B:Nat) (w:World) (h0:w.cell? ⟨B,0,none⟩=some va) (h1:w.cell? ⟨B,1,none⟩=some vb) (ha:SlB w va la) (hb:SlB w vb lb) (hla:la.length≤1000) (hlb:lb.length≤1000) (hca:∀ c∈la,c.kv.oneCell'=true) (hcb:∀ c∈lb,c.kv.oneCell'=true) :
  Calls Tryz.prog 64 #[.slice (some ⟨B,0,none⟩) 2 2] w fun e w'=>∃ v,e=.returned v∧w'.ownsRow w.heap.size 53 6 v (la.length+lb.length) ((la++lb).flatMap BrC.cells)∧Grew w w':=by
 obtain⟨Aa,na,ca,rfl,hal,han,hac,har⟩:=ha
 obtain⟨Ab,nb,cb,rfl,hbl,hbn,hbc,hbr⟩:=hb
 have hfa:=flatMap_len BrC.cells 6 (fun _=>rfl) la
 have hfb:=flatMap_len BrC.cells 6 (fun _=>rfl) lb
 obtain rfl:na=la.length:=by omega
 obtain rfl:nb=lb.length:=by omega
 have HA:=uZ (show Rd w 6 (.slice Aa la.length ca) (la.flatMap BrC.cells) from⟨Aa,_,ca,rfl,hal,han,hac,har⟩)
 have HB:=uZ (show Rd w 6 (.slice Ab lb.length cb) (lb.flatMap BrC.cells) from⟨Ab,_,cb,rfl,hbl,hbn,hbc,hbr⟩)
 have H1A:=uZ (one_cellsB la hca)
 have H1B:=uZ (one_cellsB lb hcb)
 have HFA:=uZ hfa
 have HFB:=uZ hfb
 unfold maxLen at hac hbc
 obtain⟨i0,hi,hz0,hz1,hz2⟩:=info_parts cinfoB
 clear hal har hbl hbr hfa hfb hca hcb
 rw[List.flatMap_append]
 generalize la.flatMap BrC.cells=xa at HA H1A HFA ⊢
 generalize lb.flatMap BrC.cells=xb at HB H1B HFB ⊢
 generalize la.length=na at hla han hac HA HFA h0 ⊢
 generalize lb.length=nb at hlb hbn hbc HB HFB h1 ⊢
 have kG:=growNil (na+nb) w b_37
 rw[show((na+nb:Nat):Int)=(na:Int)+(nb:Int) by omega] at kG
 have KG:=uZ kG
 clear kG
 have H01:=uZ (fun(W:World) (g:Grew w W)=>(⟨(g.cell (World.block_lt_of_cell? _ _ h0)).trans h0,(g.cell (World.block_lt_of_cell? _ _ h1)).trans h1⟩:W.cell? ⟨B,0,none⟩=some (.slice Aa na ca)∧W.cell? ⟨B,1,none⟩=some (.slice Ab nb cb)))
 have hs1:¬ ((na:Int)<0):=by omega
 have hs2:¬ ((na:Int)+(nb:Int)<0):=by omega
 go_enter Tryz.func64,Tryz.ntmps64
 go_wp2
 refine wp_loop_rounds 3 ?_
 rw[rounds_succ]
 go_wp2
 rw[rounds_succ]
 go_wp2
 rw[rounds_succ]
 go_wp2_with fail
 refine KG.out.mono ?_
 rintro e w1 ⟨v1,rfl,o1,g1⟩
 obtain⟨c0,c1⟩:=H01.out w1 g1
 have HO1:=uZ o1
 have HG1:=uZ g1
 clear o1 g1
 dsimp only
 go_wp2
 refine wp_loop_rounds 3 ?_
 rw[rounds_succ]
 go_wp2_with (first|(at_builtin;refine appR rfl _ _ 33 rfl w 53 i0 (.agg #[.int .i64 0,.int .i64 0,.int .i64 0,.string ⟨#[]⟩,.string ⟨#[]⟩,.slice none 0 0]) 6 80 Tryz.underlying33 hi hz0 hz1 hz2 rfl b_37 v1 0 [] b_39 _ HO1.out HG1.out (.slice Aa na ca) na xa b_39 (HA.out.mono HG1.out) HFA.out H1A.out b_34 b_37 ?_;intro v2 w2 o2 g2 k2))
 obtain⟨d0,d1⟩:=H01.out w2 g2
 have HO2:=uZ o2
 have HG2:=uZ g2
 clear o2 g2 k2 c0 c1
 rw[rounds_succ]
 go_wp2_with (first|(at_builtin;refine appR rfl _ _ 33 rfl w 53 i0 (.agg #[.int .i64 0,.int .i64 0,.int .i64 0,.string ⟨#[]⟩,.string ⟨#[]⟩,.slice none 0 0]) 6 80 Tryz.underlying33 hi hz0 hz1 hz2 rfl b_37 v2 (0+na) ([]++xa) b_39 _ HO2.out HG2.out (.slice Ab nb cb) nb xb b_39 (HB.out.mono HG2.out) HFB.out H1B.out b_34 b_37 ?_;intro v3 w3 o3 g3 k3))
 have HO3:=uZ o3
 have HG3:=uZ g3
 clear o3 g3 k3
 rw[rounds_succ]
 go_wp2
 go_ret
 refine⟨_,rfl,?_,HG3.out⟩
 have h3:=HO3.out
 rw[Nat.zero_add,List.nil_append] at h3
 exact h3
end Go.Proofs.YtafncfomiolmgaaGreatDoor
namespace Go.Proofs.YtafncfomiolmgaaGreatDoor
open Go.RowKit
theorem mem_cmpUpTo (d:Array Int) (x:Int):∀ m,x∈Lib.compactUpTo d m↔∃ j,j<m∧d[j]! = x
 | 0=>by simp[Lib.compactUpTo]
 | m+1=>by
  rw[Lib.compactUpTo_succ,List.mem_append,mem_cmpUpTo d x m]
  constructor
  ·rintro (⟨j,hj,e⟩|h2)
   ·exact⟨j,by omega,e⟩
   ·cases hk:Lib.keeps d m
    ·rw[hk] at h2;simp at h2
    ·rw[hk,if_pos rfl,List.mem_singleton] at h2;exact⟨m,by omega,h2.symm⟩
  ·rintro ⟨j,hj,e⟩
   by_cases hjm:j<m
   ·exact .inl ⟨j,hjm,e⟩
   ·obtain rfl:j=m:=by omega
    cases hk:Lib.keeps d j
    ·unfold Lib.keeps at hk
     rw[decide_eq_false_iff_not,not_or,Decidable.not_not] at hk
     exact .inl ⟨j-1,by omega,by rw[← hk.2,e]⟩
    ·exact .inr (by rw[if_pos rfl,e];exact List.mem_singleton.2 rfl)
theorem mem_cmp (l:List Int) (x:Int):x∈Lib.compact l↔x∈l:=by
 unfold Lib.compact
 rw[mem_cmpUpTo,List.mem_iff_getElem]
 constructor
 ·rintro ⟨j,hj,e⟩
  exact⟨j,hj,by rw[← e,getElem!_pos l.toArray j (by simpa using hj)];simp⟩
 ·rintro ⟨j,hj,e⟩
  exact⟨j,hj,by rw[← e,getElem!_pos l.toArray j (by simpa using hj)];simp⟩
theorem cmp_asc (d:Array Int) (hd:∀ i j,i<j→j<d.size→d[i]! ≤ d[j]!):∀ m,m≤d.size→Asc (Lib.compactUpTo d m)∧∀ x∈Lib.compactUpTo d m,0<m∧x≤d[m-1]!
 | 0,_=>⟨by simp[Lib.compactUpTo,Asc],fun x hx=>by simp[Lib.compactUpTo] at hx⟩
 | m+1,h=>by
  obtain⟨h1,h2⟩:=cmp_asc d hd m b_37
  have hle:∀ x∈Lib.compactUpTo d m,x≤d[m]!:=fun x hx=>by
   obtain⟨h0,hx2⟩:=h2 x hx
   exact Int.le_trans hx2 (hd (m-1) m b_37 b_37)
  rw[Lib.compactUpTo_succ]
  cases hk:Lib.keeps d m
  ·refine⟨by simpa using h1,fun x hx=>⟨by omega,?_⟩⟩
   exact hle x (by simpa using hx)
  ·refine⟨?_,fun x hx=>⟨by omega,?_⟩⟩
   ·unfold Asc
    rw[if_pos rfl,List.pairwise_append]
    refine⟨h1,by simp,fun x hx y hy=>?_⟩
    rw[List.mem_singleton] at hy
    subst hy
    obtain⟨h0,hx2⟩:=h2 x hx
    have hne:d[m]! ≠ d[m-1]!:=by
     unfold Lib.keeps at hk
     have:=of_decide_eq_true hk
     rcases this with h|h
     ·omega
     ·exact h
    have h3:=hd (m-1) m b_37 b_37
    omega
   ·rw[if_pos rfl] at hx
    rcases List.mem_append.1 hx with hx|hx
    ·exact hle x hx
    ·rw[List.mem_singleton] at hx
     rw[hx]
     exact Int.le_refl _
theorem cmp_sorted {l:List Int} (h:l.Pairwise (· ≤ ·)):Asc (Lib.compact l):=by
 unfold Lib.compact
 refine(cmp_asc l.toArray (fun i j hij hj=>?_) l.length b_38).1
 have hj':j<l.length:=by simpa using hj
 rw[getElem!_pos l.toArray i (by simp;omega),getElem!_pos l.toArray j hj]
 simp only [List.getElem_toArray]
 exact List.pairwise_iff_getElem.1 h i j b_37 hj' hij
theorem sortI_sorted (l:List Int):(sortI l).Pairwise (· ≤ ·):=by
 have:=List.pairwise_mergeSort (le:=fun x y:Int=>decide (x≤y)) (fun a b c h1 h2=>by simp at *;omega) (fun a b=>by simp;omega) l
 refine List.Pairwise.imp ?_ this
 intro a b h
 simpa using h
theorem cmp_sort (l:List Int):Asc (Lib.compact (sortI l))∧∀ x,x∈Lib.compact (sortI l)↔x∈l :=
 ⟨cmp_sorted (sortI_sorted l),fun x=>by rw[mem_cmp];exact List.mem_mergeSort⟩
theorem sort_len (l:List Int):(sortI l).length=l.length:=(List.mergeSort_perm l _).length_eq
theorem sort_keep (l:List Int) (w0:World) (e:TypeId) (v:Value) (w:World) (hown:w.ownsRow w0.heap.size e 1 v l.length (l.flatMap oneI)) (hg:Grew w0 w) (hl:l.length≤1000000) :
  Calls Tryz.prog 65 #[v] w fun en w'=>en=.returned (.tuple #[])∧w'.ownsRow w0.heap.size e 1 v (sortI l).length ((sortI l).flatMap oneI)∧Grew w0 w':=by
 rcases Nat.eq_zero_or_pos l.length with h0|h0
 ·obtain rfl:l=[]:=List.eq_nil_of_length_eq_zero h0
  have hv:∃ A c,v=.slice A 0 c:=by
   rcases hown.2 with ⟨rfl,_⟩|⟨g,cap,cur,rfl,_⟩
   ·exact⟨_,_,rfl⟩
   ·exact⟨_,_,rfl⟩
  obtain⟨A,c,rfl⟩:=hv
  refine(Tryz.slices_Sort_int_none A c w).mono ?_
  rintro en w' ⟨rfl,rfl⟩
  refine⟨rfl,?_,hg⟩
  rw[show sortI []=[] by simp[sortI]]
  exact hown
 ·have hH0:=hown
  rcases hown.2 with ⟨_,hz⟩|⟨g,cap,cur,rfl,hbg,hh,h1,h2,h3,h4⟩
  ·omega
  have hlt:g<w.heap.size:=(Array.getElem?_eq_some_iff.1 hh).1
  have hH:=holdsI_of_own hH0
  refine(Tryz.slices_Sort_int g 0 cap l w hH hlt b_37).mono ?_
  rintro en w' ⟨rfl,n,os,rfl⟩
  have hl2:(sortI l).length=l.length:=(List.mergeSort_perm l _).length_eq
  refine⟨rfl,?_,grew_sortedI hbg hg _ _ _⟩
  rw[flat_int,hl2]
  exact ownsRow_sortedI hl2 hbg hh h1 h2 h3
end Go.Proofs.YtafncfomiolmgaaGreatDoor
namespace Go.Proofs.YtafncfomiolmgaaGreatDoor
open Go.RowKit Go.Maps
def unitOf (c:BrC):Br:=⟨c.id,c.parent,c.level,c.title,c.mark,[]⟩
theorem units_of {w:World} {cs:List BrC} {l:List Br} (hl:cs.length=l.length) (h:∀ i (h:i<cs.length) (h':i<l.length),BrOk w cs[i] l[i]):cs.map unitOf=l.map core:=by
 refine List.ext_getElem (by simp[hl]) fun i h1 h2=>?_
 have h3:i<cs.length:=by simpa using h1
 have h4:i<l.length:=by simpa using h2
 rw[List.getElem_map,List.getElem_map,(h i h3 h4).1]
 rfl
theorem wf_units {t:Tr} (h:SoundM t):∀ u∈t.brs.map core,WfU u:=by
 intro u hu
 obtain⟨b,hb,rfl⟩:=List.mem_map.1 hu
 obtain⟨h1,h2,h3,h4⟩:=h.units b hb
 have hp:=h.placed b hb
 rw[within_t] at h1 h2
 have hpar:0≤b.parent∧b.parent≤1073741824:=by
  unfold BrPlaced at hp
  by_cases h0:b.parent=0
  ·omega
  ·rw[if_neg h0] at hp
   obtain⟨p,hp,-⟩:=hp
   have h5:=(h.units p (find_in hp).1).1
   rw[within_t,(find_in hp).2] at h5
   omega
 have ht:b.title.size≤64:=nameF_size h3
 have hm:b.mark.size≤64:=by
  cases hmm:b.mark.toList.isEmpty
  ·have:=h4 hmm
   unfold markF at this
   simp only [Bool.and_eq_true,decide_eq_true_eq] at this
   have h6:=this.1.2
   rw[size_data] at h6
   exact h6
  ·have:b.mark=⟨#[]⟩:=emptyS_iff.1 hmm
   rw[this]
   decide
 refine⟨?_,?_,?_,?_,?_,rfl⟩
 ·exact WalkArith.wf_i64 (n:=b.id) b_37
 ·exact WalkArith.wf_i64 (n:=b.parent) b_37
 ·exact WalkArith.wf_i64 (n:=b.level) b_37
 ·show b.title.size≤maxLen
  unfold maxLen
  omega
 ·show b.mark.size≤maxLen
  unfold maxLen
  omega
def RetChg (a b:Tr) (w:World) (e:Ending) (w':World):Prop:=∃ v n l,e=.returned (.tuple #[v,.int .i64 n])∧SlI w' v l∧Grew w w'∧(RightT a∧RightT b→n=0∧ChgIs a b l)∧(¬ (RightT a∧RightT b)→n=1∧l=[])
set_option maxHeartbeats 4000000 in
theorem rChangedNo (a b:Tr) (ra ba rb bb:Value) (w:World) (hE:Env w) (har:SlI w ra a.roots) (hav:SlBr w ba a.brs) (hbr:SlI w rb b.roots) (hbv:SlBr w bb b.brs) (hfa:FewBr a.brs) (hfb:FewBr b.brs) (hla:a.roots.length≤1000000) (hlb:b.roots.length≤1000000) (hno:¬ (RightT a∧RightT b)) :
  Calls Tryz.prog 25 #[.agg #[ra,ba],.agg #[rb,bb]] w (RetChg a b w):=by
 have KA:=uZ (fun W (hW:Grew w W)=>fRight a.roots a.brs ra ba W (hE.mono hW) (har.mono hW) (hav.mono hW) hfa hla)
 have KB:=uZ (fun W (hW:Grew w W)=>fRight b.roots b.brs rb bb W (hE.mono hW) (hbr.mono hW) (hbv.mono hW) hfb hlb)
 have HFin:RowKit.Hid (∀ w',Grew w w'→RetChg a b w (.returned (.tuple #[.slice none 0 0,.int .i64 1])) w'):=fun w' hg=>⟨_,_,[],rfl,SlI.nil _,hg,fun h=>absurd h hno,fun _=>⟨rfl,rfl⟩⟩
 have HNO:=uZ hno
 clear hE har hav hbr hbv hfa hfb hla hlb hno
 go_enter Tryz.func25,Tryz.ntmps25
 go_wp2_with fail
 refine(KA.out _ (((uX w).alloc _).alloc _)).mono ?_
 rintro e w1 ⟨qa,rfl,hqa,g1⟩
 have HG1:=uZ ((((uX w).alloc _).alloc _).trans g1)
 have b0:=yQ g1 0 _ rfl
 have b1:=yQ g1 1 _ rfl
 rw[size_allocB] at b0 b1
 dsimp only
 have HQA:=uZ hqa
 clear g1 hqa
 cases qa
 ·go_wp2
  go_ret2
  exact HFin.out _ HG1.out
 ·have HT:=uZ (HQA.out.1 rfl)
  clear HQA
  go_wp2_with fail
  refine(KB.out _ HG1.out).mono ?_
  rintro e w2 ⟨qb,rfl,hqb,g2⟩
  obtain rfl:qb=false:=by
   cases qb
   ·rfl
   ·exact absurd ⟨HT.out,hqb.1 rfl⟩ HNO.out
  have HG2:=uZ (HG1.out.trans g2)
  clear g2 hqb
  dsimp only
  go_wp2
  go_ret2
  exact HFin.out _ HG2.out
theorem cell_new2 (W:World) (o:Obj) (cs:List Value) (t:TypeId) (j:Nat) (v:Value) (hj:cs[j]? = some v):((W.alloc o).alloc (.cells cs.toArray t)).cell? ⟨W.heap.size+1,j,none⟩=some v:=by
 have:=yQ (w:=W.alloc o) (uX _) j v hj (t:=t)
 rw[size_allocB] at this
 exact this
theorem mapLater {w w':World} {k e:TypeId} {b n:Nat} {D:DataW Unit} (h:w.ownsMap Tryz.prog k (plainElem Tryz.prog e) b n D) (g:Grew w w'):w'.ownsMap Tryz.prog k (plainElem Tryz.prog e) b n D:=by
 obtain⟨es,clock,hb,r⟩:=h
 exact⟨es,clock,by rw[g.block b (Array.getElem?_eq_some_iff.1 hb).1];exact hb,r⟩
theorem grewTurned {w0 w w':World} {b:Nat} (h:Grew w0 w) (g:w.grownBy w' (some b)) (hb:w0.heap.size≤b):Grew w0 w':=Below.grown h g h.size (fun k hk=>by cases hk;exact hb)
theorem zeroI (u:World):(zeroValue 3).run Tryz.prog u=.ok (.int .i64 0) u:=by kernel_rfl
set_option maxHeartbeats 16000000 in
set_option maxRecDepth 100000 in
theorem rChangedYes (a b:Tr) (ra ba rb bb:Value) (w:World) (hE:Env w) (har:SlI w ra a.roots) (hav:SlBr w ba a.brs) (hbr:SlI w rb b.roots) (hbv:SlBr w bb b.brs) (hfa:FewBr a.brs) (hfb:FewBr b.brs) (hla:a.roots.length≤1000000) (hlb:b.roots.length≤1000000) (hRa:RightT a) (hRb:RightT b) :
  Calls Tryz.prog 25 #[.agg #[ra,ba],.agg #[rb,bb]] w (RetChg a b w):=by
 have hmm:=@run_makeMap Tryz.prog
 have KA:=uZ (fun W (hW:Grew w W)=>fRight a.roots a.brs ra ba W (hE.mono hW) (har.mono hW) (hav.mono hW) hfa hla)
 have KB:=uZ (fun W (hW:Grew w W)=>fRight b.roots b.brs rb bb W (hE.mono hW) (hbr.mono hW) (hbv.mono hW) hfb hlb)
 have hSa:=right_sound hRa
 have hSb:=right_sound hRb
 obtain⟨la,hsa,hlla,hoa⟩:=hav
 obtain⟨lb,hsb,hllb,hob⟩:=hbv
 have hua:=units_of hlla hoa
 have hub:=units_of hllb hob
 have hca:∀ c∈la,c.kv.oneCell'=true:=fun c hc=>by
  obtain⟨i,hi,rfl⟩:=List.mem_iff_getElem.1 hc
  exact slI_one (hoa i hi b_37).2
 have hcb:∀ c∈lb,c.kv.oneCell'=true:=fun c hc=>by
  obtain⟨i,hi,rfl⟩:=List.mem_iff_getElem.1 hc
  exact slI_one (hob i hi b_37).2
 have hna:la.length≤256:=by rw[hlla];exact hSa.len
 have hnb:lb.length≤256:=by rw[hllb];exact hSb.len
 have hbu:(la++lb).map unitOf=bothU a b:=by
  rw[List.map_append,hua,hub]
  rfl
 have hwf:∀ u∈(la++lb).map unitOf,WfU u:=fun u hu=>by
  rw[hbu] at hu
  rcases List.mem_append.1 hu with h|h
  ·exact wf_units hSa u h
  ·exact wf_units hSb u h
 have HFin:RowKit.Hid (∀(L:List Br),(∀ n,n∈L.map Br.id↔∃ u,((la++lb).map unitOf).count u=1∧u.id=n)→ChgIs a b (Lib.compact (sortI (L.map Br.id)))):=fun L hL=>by
  obtain⟨h1,h2⟩:=cmp_sort (L.map Br.id)
  refine chg_of_count hSa.asc hSb.asc h1 fun n=>?_
  rw[h2,hL,hbu]
 have HEnd:RowKit.Hid (∀(v:Value) (l:List Int) (w':World),SlI w' v l→Grew w w'→ChgIs a b l→RetChg a b w (.returned (.tuple #[v,.int .i64 0])) w'):=fun v l w' hs hg hc=>⟨v,0,l,rfl,hs,hg,fun _=>⟨rfl,hc⟩,fun h=>absurd ⟨hRa,hRb⟩ h⟩
 have KC:=uZ (fun(B:Nat) (W:World) (hW:Grew w W) h0 h1=>concatB la lb _ _ B W h0 h1 (hsa.mono hW) (hsb.mono hW) b_37 b_37 hca hcb)
 obtain⟨Aa,ca,rfl,-,-,-⟩:=hsa.open_
 obtain⟨Ab,cb,rfl,-,-,-⟩:=hsb.open_
 obtain⟨Ra,da,rfl,-⟩:=SlI.open_ har
 obtain⟨Rb,db,rfl,-⟩:=SlI.open_ hbr
 have HN:RowKit.Hid ((la++lb).length=la.length+lb.length):=List.length_append
 have HWF:=uZ hwf
 have h1cs:∀ c∈la++lb,∃ X n k,c.kv=.slice X n k:=fun c hc=>by
  rcases List.mem_append.1 hc with h|h
  ·obtain⟨i,hi,rfl⟩:=List.mem_iff_getElem.1 h
   obtain⟨X,k,e,-⟩:=SlI.open_ (hoa i hi b_37).2
   exact⟨X,_,k,e⟩
  ·obtain⟨i,hi,rfl⟩:=List.mem_iff_getElem.1 h
   obtain⟨X,k,e,-⟩:=SlI.open_ (hob i hi b_37).2
   exact⟨X,_,k,e⟩
 have H1C:=uZ (fun i (hi:i<(la++lb).length)=>h1cs _ (List.getElem_mem hi))
 have HRA:=uZ hRa
 have HRB:=uZ hRb
 clear h1cs
 generalize hcs:la++lb=cs at KC HN HWF HFin H1C
 generalize la.length=na at KC HN hna KA ⊢
 generalize lb.length=nb at KC HN hnb KB ⊢
 clear hcs hsa hsb hlla hllb hoa hob hua hub hca hcb hbu hwf hSa hSb hE har hbr hfa hfb hla hlb hRa hRb
 obtain⟨i0,hi,hz0,hz1,hz2⟩:=info_parts cinfoI
 go_enter Tryz.func25,Tryz.ntmps25
 go_wp2_with fail
 refine(KA.out _ (((uX w).alloc _).alloc _)).mono ?_
 rintro e w1 ⟨qa,rfl,hqa,g1⟩
 obtain rfl:qa=true:=hqa.2 HRA.out
 have HG1:=uZ ((((uX w).alloc _).alloc _).trans g1)
 have x0:=yQ (w:=w) (((uX _).alloc _).trans g1) 0 _ rfl
 have x1:=yQ (w:=w) (((uX _).alloc _).trans g1) 1 _ rfl
 have y0:=yQ g1 0 _ rfl
 have y1:=yQ g1 1 _ rfl
 rw[size_allocB] at y0 y1
 clear g1 hqa
 dsimp only
 go_wp2_with fail
 refine(KB.out _ HG1.out).mono ?_
 rintro e w2 ⟨qb,rfl,hqb,g2⟩
 obtain rfl:qb=true:=hqb.2 HRB.out
 have HG2:=uZ (HG1.out.trans g2)
 replace x1:=uQ g2 x1
 replace y1:=uQ g2 y1
 have x2:=uQ ((uX w2).alloc (.map #[] 0)) x1
 have y2:=uQ ((uX w2).alloc (.map #[] 0)) y1
 clear g2 hqb x0 y0 x1 y1 HRA HRB KA KB HG1
 dsimp only
 go_wp2_with fail
 have hB0:=cell_new2 w2 (.map #[] 0) [.slice Aa na ca,.slice Ab nb cb] 33 0 _ rfl
 have hB1:=cell_new2 w2 (.map #[] 0) [.slice Aa na ca,.slice Ab nb cb] 33 1 _ rfl
 have G4:Grew w2 ((w2.alloc (.map #[] 0)).alloc (.cells [.slice Aa na ca,.slice Ab nb cb].toArray 33)):=((uX w2).alloc _).alloc _
 refine(KC.out _ _ (HG2.out.trans G4) hB0 hB1).mono ?_
 rintro e w3 ⟨v3,rfl,o3,g3⟩
 have OM:=uZ (show w3.ownsMap Tryz.prog 51 (plainElem Tryz.prog 3) w2.heap.size 0 (.map []:DataW Unit) from mapLater (World.ownsMap_made w2 _ _ _) (((uX _).alloc _).trans g3))
 have HG3:=uZ (HG2.out.trans (G4.trans g3))
 have hrow:v3.ownBlock≠some w2.heap.size:=fun h=>by
  have:=(o3.lt _ h).1
  rw[size_allocB,size_allocB] at this
  omega
 have HS3:=uZ (show SlB w3 v3 cs from Rd.of_own o3)
 have HM2:=uZ (show w.heap.size≤w2.heap.size from HG2.out.size)
 obtain⟨A,c,rfl,hlc,hc,-⟩:=HS3.out.open_
 have HROW:=uZ hrow
 have hcl:cs.length≤512:=by have:=HN.out;omega
 unfold maxLen at hc
 generalize w2.heap.size=M at OM HROW HM2 ⊢
 clear g3 G4 hB0 hB1 o3 hrow x2 y2 HG2
 dsimp only
 go_wp2
 go_loopg [28] cs.length (fun gg s28 wr=>∃ kk:Nat,kk≤cs.length∧cs.length-kk≤gg∧s28=.int .i64 kk∧Aside (∃ D:DataW Unit,wr.ownsMap Tryz.prog 51 (plainElem Tryz.prog 3) M kk D∧CntU D ((cs.map unitOf).take kk))∧Aside (SlB wr (.slice A cs.length c) cs)∧Aside (Grew w wr))
 case atStart=>exact⟨0,by omega,by omega,rfl,(show Aside _ from⟨_,OM.out,CntU.nil⟩),(show Aside _ from HS3.out),(show Aside _ from HG3.out)⟩
 case round =>
  obtain⟨kk,hkk,hgk,rfl,OD,SB,BW⟩:=hrel
  obtain⟨D,OW,CN⟩:=OD.out
  have HCN:=uZ CN
  by_cases hlt:kk<cs.length
  case neg =>
   have hltz:¬ (kk:Int)<(cs.length:Int):=by omega
   obtain rfl:kk=cs.length:=by omega
   have HCN2:RowKit.Hid (CntU D (cs.map unitOf)):=by
    show CntU _ _
    have h:=CN
    rw[List.take_of_length_le b_38] at h
    exact h
   have hsz:=OW.size_le
   have HOW:=uZ OW
   clear CN HCN OD SB OW hltz
   generalize hU:cs.map unitOf=U at HWF HFin HCN2
   clear hU
   go_wp2_with (at_range;refine wpList_range_own _ rfl _ 76 rfl 51 3 keyedU Tryz.underlying76 _ M cs.length _ rfl HOW.out ?_;intro w0 hrg0 hg0 hs0)
   have HRG:=uZ hrg0
   have HG0:=uZ (show Grew w w0 from Below.grown BW.out hg0 BW.out.size (fun k hk=>by cases hk))
   have HS0:=uZ (show w.heap.size≤wr.heap.size from BW.out.size)
   clear hrg0 hg0 hs0
   generalize wr.heap.size=r0 at HRG HS0
   go_frame
   go_loopg [9] (Maps.size D) (fun gg s9 wx=>∃ left cnt L,cnt≤gg∧Aside (wx.ranges Tryz.prog 51 (plainElem Tryz.prog 3) M r0 cs.length D left cnt)∧Aside (wx.ownsRow w.heap.size 3 1 s9 (L.map Br.id).length ((L.map Br.id).flatMap oneI))∧Aside (CollU U left L)∧L.length+cnt≤Maps.size D∧Aside (Grew w wx))
   case atStart=>exact⟨_,_,[],Nat.le_refl _,HRG.out,(show Aside _ from World.ownsRow_nil _ _ _ _),(show Aside _ from CollU.start HCN2.out),by simp,HG0.out⟩
   case round =>
    obtain⟨left,cnt,L,hcg,RG,OR,CO,hcs2,GX⟩:=hrel
    go_wp2_with (at_next;refine wpList_next_ranges _ rfl _ rfl 51 keyedU (plainElem Tryz.prog 3) (fun u:{u:Br // WfU u}=>unitV u.1) (Value.int .i64) (fun key kl hk=>by obtain⟨u,hu,e,_⟩:=keyU_inv hk;exact⟨⟨u,hu⟩,e⟩) (fun v y hv=>by obtain⟨c,rfl,_⟩:=plainElem_int_inv Tryz.underlying3 hv;exact⟨c,rfl⟩) M r0 cs.length _ _ _ rfl RG.out ?_ ?_)
    ·intro hc0 hl0
     have HD:=uZ (HFin.out L (CO.out.done hl0))
     have KS:=uZ (sort_keep (L.map Br.id) w _ _ wr OR.out GX.out (by rw[List.length_map];omega))
     have HLn:RowKit.Hid (L.length≤512):=by
      show L.length≤512
      omega
     clear hl0
     go_wp2_with fail
     refine KS.out.mono ?_
     rintro e w4 ⟨rfl,o4,g4⟩
     have KM:=uZ (compact_own (sortI (L.map Br.id)) w _ _ w4 o4 g4 (by rw[sort_len,List.length_map];have:=HLn.out;omega) (comp_len _))
     clear o4 g4
     dsimp only
     go_wp2_with fail
     refine KM.out.mono ?_
     rintro e w5 ⟨v5,rfl,s5,g5⟩
     have HF5:=uZ (HEnd.out _ _ _ s5 g5 HD.out)
     clear s5 g5
     dsimp only
     go_wp2
     go_ret2
     exact HF5.out
    ·intro x hx c0 kl y1 y2 w2 cnt2 hkey hlk hv hat hrg2 hlt2 hg2 hs2 hen
     obtain rfl:=keyU_kl hx hkey
     obtain⟨c1,ec,ez,-⟩:=plainElem_int_inv Tryz.underlying3 hv
     obtain rfl:c0=c1:=by injection ec
     obtain⟨rfl,rfl⟩:=Prod.mk.inj ez
     have hcx:c0=(U.count x:Int):=by
      have:=hat (.lit (.int .i64 0))
      rw[HCN2.out.at_ x hx] at this
      injection this with this
      injection this with _ this
      exact this.symm
     have OR2:=uZ (OR.out.kept hg2 (Or.inr (row_ne_iter OR.out RG.out).symm))
     have RG2:=uZ hrg2
     have CO2:=uZ (CO.out.step HWF.out hx)
     have GX2:=uZ (grewTurned GX.out hg2 HS0.out)
     have hm:L.length+1≤1000:=by omega
     have HML:=uZ (show(L.map Br.id).length=L.length from List.length_map _)
     subst hcx
     clear hs2 hg2 hrg2 hat hlk hv hkey ec ez OR RG CO GX
     unfold unitV at hen ⊢
     by_cases h1:U.count x=1
     ·rw[h1] at hen CO2 ⊢
      rw[if_pos rfl] at CO2
      have hcell:=cell_one_new (w2.alloc (.cells #[.int .i64 x.id,.int .i64 x.parent,.int .i64 x.level,.string x.title,.string x.mark] 51)) (.int .i64 x.id) 3
      rw[size_allocB] at hcell
      have HCell:=uZ hcell
      clear hcell h1 hx
      generalize hLM:L.map Br.id=LM at OR2 HML
      have HLM:=uZ hLM
      have hLL:LM.length+1≤1000:=by rw[HML.out];exact hm
      clear hLM
      go_wp2_with (at_builtin;refine wpList_append_own _ rfl _ _ 32 rfl w.heap.size 3 i0 (.int .i64 0) 1 8 Tryz.underlying32 hi hz0 hz1 hz2 rfl b_36 _ _ _ rfl ((OR2.out.alloc _).alloc _) ⟨w2.heap.size+1,0,none⟩ 1 1 [.int .i64 x.id] rfl rfl HCell.out (by simp[Value.oneCell']) b_34 b_37 (by have:=GX2.out.size;simp;omega) ?_;intro v' w3 hown' hg3 hnil3)
      have RG3:=uZ (((RG2.out.alloc _).alloc _).kept hg3 (row_ne_map OR2.out RG2.out.owns) (row_ne_iter OR2.out RG2.out))
      have GX3:=uZ (show Grew w w3 from Below.grown ((GX2.out.alloc _).alloc _) hg3 (by have:=GX2.out.size;simp;omega) (fun k hk=>(OR2.out.lt k hk).1))
      have hL2:(L++[x]).map Br.id=LM++[x.id]:=by
       rw[List.map_append,HLM.out]
       rfl
      have OR3:=uZ (show w3.ownsRow w.heap.size 3 1 v' ((L++[x]).map Br.id).length (((L++[x]).map Br.id).flatMap oneI) from by
       rw[hL2,List.flatMap_append,List.length_append]
       exact hown')
      have hlt3:(L++[x]).length+cnt2≤Maps.size D:=by
       rw[List.length_append]
       show L.length+1+cnt2≤_
       omega
      clear hown' hg3 hnil3 hL2
      go_roundg cnt2
      case measure=>omega
      case rel=>exact⟨_,cnt2,L++[x],Nat.le_refl _,RG3.out,OR3.out,CO2.out,hlt3,GX3.out⟩
     ·have h2:((U.count x:Nat):Int)≠1:=by omega
      rw[if_neg h1] at CO2
      clear h1 hx
      go_wp2
      go_roundg cnt2
      case measure=>omega
      case rel=>exact⟨_,cnt2,L,Nat.le_refl _,(show Aside _ from RG2.out.alloc _),(show Aside _ from OR2.out.alloc _),CO2.out,by omega,(show Aside _ from GX2.out.alloc _)⟩
  have hltz:(kk:Int)<(cs.length:Int):=by omega
  obtain⟨A',c',he,-,-,hr⟩:=SlB.open_ SB.out
  obtain⟨hA,-,-⟩:=Value.slice.inj he
  obtain⟨b0,off,hA2,hb0,hcell⟩:=hr b_37
  obtain rfl:=hA.trans hA2
  obtain⟨c0,c1,c2,c3,c4,c5⟩:=hcell wr (uX _) kk hlt
  have hu:=HWF.out (unitOf cs[kk]) (List.mem_map_of_mem (List.getElem_mem hlt))
  obtain⟨KX,Kn,Kc,h1k⟩:=H1C.out kk hlt
  clear hA he hA2 hr hcell
  have hcnt:((cs.map unitOf).take kk).count (unitOf cs[kk])≤512:=Nat.le_trans List.count_le_length (by rw[List.length_take,List.length_map];omega)
  have htk:(cs.map unitOf).take (kk+1)=(cs.map unitOf).take kk++[unitOf cs[kk]]:=by
   rw[List.take_succ_eq_append_getElem (by simpa using hlt),List.getElem_map]
  have HSt:RowKit.Hid (CntU (D.put (kU (unitOf cs[kk])) (.lit (.int .i64 ((((cs.map unitOf).take kk).count (unitOf cs[kk]):Nat)+1:Int)))) ((cs.map unitOf).take (kk+1))):=by
   show CntU _ _
   rw[htk]
   exact CN.bump (fun v hv=>HWF.out v (List.mem_of_mem_take hv)) hu
  have hkey:=keyU _ hu
  obtain⟨q,st,w6,hat,hwq,hl1,hme,hl2,hst⟩:=bump_map (t:=76) ((OW.alloc (.cells [.int .i64 cs[kk].id,.int .i64 cs[kk].parent,.int .i64 cs[kk].level,.string cs[kk].title,.string cs[kk].mark,cs[kk].kv].toArray 53)).drew) lawU Tryz.underlying76 Tryz.underlying3 zeroI b_34 hkey
  have hq:q=(((cs.map unitOf).take kk).count (unitOf cs[kk]):Nat):=by
   have:=CN.at_ _ hu
   rw[hat] at this
   injection this with this
   injection this
  subst hq
  clear CN OD hat htk hwq hkey hu
  generalize ((cs.map unitOf).take kk).count (unitOf cs[kk])=q at HSt hl1 hme hl2 hst hcnt
  obtain⟨w7,hes,ow7,gr7⟩:=hst ((q:Int)+1) (WalkArith.wf_i64 (n:=(q:Int)+1) b_37)
  unfold unitV at hl1 hme hl2
  have hcl5:RowKit.Hid (∀(k:Lit) (d:DataW Unit),k=kU (unitOf cs[kk])→True):=fun _ _ _=>trivial
  clear hst hcl5
  generalize kU (unitOf cs[kk])=KU at HSt ow7
  dsimp only [unitOf] at hl1 hme hl2
  generalize cs[kk]=y at c0 c1 c2 c3 c4 c5 h1k hl1 hme hl2 hes ow7 gr7
  obtain⟨y1,y2,y3,y4,y5,y6⟩:=y
  dsimp only at c0 c1 c2 c3 c4 c5 h1k hl1 hme hl2 hes ow7 gr7
  subst h1k
  have HO7:=uZ ow7
  have HG7:=uZ gr7
  have HSB7:=uZ (show SlB w7 (.slice (some ⟨b0,off,none⟩) cs.length c) cs from rd_grown (Rd.mono SB.out ((uX wr).alloc _).drew) gr7 (fun b hb=>fun e=>HROW.out (by rw[hb,e])))
  have HGW7:=uZ (show Grew w w7 from grewTurned (BW.out.alloc _).drew gr7 HM2.out)
  clear ow7 gr7 OW SB HG7 HCN
  go_wp2_with fail
  go_region
  go_wp2
  go_roundg (cs.length-(kk+1))
  case measure=>omega
  case rel=>exact⟨kk+1,by omega,by omega,by go_num,(show Aside _ from⟨_,HO7.out,HSt.out⟩),(show Aside _ from HSB7.out),(show Aside _ from HGW7.out)⟩
theorem rChanged (a b:Tr) (ra ba rb bb:Value) (w:World) (hE:Env w) (har:SlI w ra a.roots) (hav:SlBr w ba a.brs) (hbr:SlI w rb b.roots) (hbv:SlBr w bb b.brs) (hfa:FewBr a.brs) (hfb:FewBr b.brs) (hla:a.roots.length≤1000000) (hlb:b.roots.length≤1000000) :
  Calls Tryz.prog 25 #[.agg #[ra,ba],.agg #[rb,bb]] w (RetChg a b w):=by
 by_cases h:RightT a∧RightT b
 ·exact rChangedYes a b ra ba rb bb w hE har hav hbr hbv hfa hfb hla hlb h.1 h.2
 ·exact rChangedNo a b ra ba rb bb w hE har hav hbr hbv hfa hfb hla hlb h
end Go.Proofs.YtafncfomiolmgaaGreatDoor
namespace Go.Proofs.YtafncfomiolmgaaGreatDoor
open Go.RowKit
theorem law_grow {W W2:World} {H:Nat} {r b v0 v1 v2 v3 v4 v5 v6 v7 v8 v9 v10 v11:Value} (h:W.cell? ⟨H,0,none⟩=some (r)∧W.cell? ⟨H,1,none⟩=some (b)∧W.cell? ⟨H+1,0,none⟩=some (v0)∧W.cell? ⟨H+1,1,none⟩=some (v1)∧W.cell? ⟨H+1,2,none⟩=some (v2)∧W.cell? ⟨H+1,3,none⟩=some (v3)∧W.cell? ⟨H+1,4,none⟩=some (v4)∧W.cell? ⟨H+1,5,none⟩=some (v5)∧W.cell? ⟨H+1,6,none⟩=some (v6)∧W.cell? ⟨H+1,7,none⟩=some (v7)∧W.cell? ⟨H+1,8,none⟩=some (v8)∧W.cell? ⟨H+1,9,none⟩=some (v9)∧W.cell? ⟨H+1,10,none⟩=some (v10)∧W.cell? ⟨H+1,11,none⟩=some (v11)) (g:Grew W W2):W2.cell? ⟨H,0,none⟩=some (r)∧W2.cell? ⟨H,1,none⟩=some (b)∧W2.cell? ⟨H+1,0,none⟩=some (v0)∧W2.cell? ⟨H+1,1,none⟩=some (v1)∧W2.cell? ⟨H+1,2,none⟩=some (v2)∧W2.cell? ⟨H+1,3,none⟩=some (v3)∧W2.cell? ⟨H+1,4,none⟩=some (v4)∧W2.cell? ⟨H+1,5,none⟩=some (v5)∧W2.cell? ⟨H+1,6,none⟩=some (v6)∧W2.cell? ⟨H+1,7,none⟩=some (v7)∧W2.cell? ⟨H+1,8,none⟩=some (v8)∧W2.cell? ⟨H+1,9,none⟩=some (v9)∧W2.cell? ⟨H+1,10,none⟩=some (v10)∧W2.cell? ⟨H+1,11,none⟩=some (v11):=by
 obtain⟨r0,b0,h0,h1,h2,h3,h4,h5,h6,h7,h8,h9,h10,h11⟩:=h
 exact⟨uQ g r0,uQ g b0,uQ g h0,uQ g h1,uQ g h2,uQ g h3,uQ g h4,uQ g h5,uQ g h6,uQ g h7,uQ g h8,uQ g h9,uQ g h10,uQ g h11⟩
theorem law_cells {w W:World} {r b:Value} (o:Opn) (g:Grew ((w.alloc (.cells [r,b].toArray 35)).alloc (.cells o.cells.toArray 25)) W):W.cell? ⟨w.heap.size,0,none⟩=some (r)∧W.cell? ⟨w.heap.size,1,none⟩=some (b)∧W.cell? ⟨w.heap.size+1,0,none⟩=some (.int .i64 o.id)∧W.cell? ⟨w.heap.size+1,1,none⟩=some (.int .i64 o.day)∧W.cell? ⟨w.heap.size+1,2,none⟩=some (.int .i64 o.kind)∧W.cell? ⟨w.heap.size+1,3,none⟩=some (.int .i64 o.unit)∧W.cell? ⟨w.heap.size+1,4,none⟩=some (.int .i64 o.parent)∧W.cell? ⟨w.heap.size+1,5,none⟩=some (.int .i64 o.before)∧W.cell? ⟨w.heap.size+1,6,none⟩=some (.int .i64 o.level)∧W.cell? ⟨w.heap.size+1,7,none⟩=some (.string o.title)∧W.cell? ⟨w.heap.size+1,8,none⟩=some (.string o.mark)∧W.cell? ⟨w.heap.size+1,9,none⟩=some (.int .i64 o.office)∧W.cell? ⟨w.heap.size+1,10,none⟩=some (.int .i64 o.acc)∧W.cell? ⟨w.heap.size+1,11,none⟩=some (.int .i64 o.num):=by
 have h:=opn_all o g
 rw[size_allocB] at h
 have g1:Grew (w.alloc (.cells [r,b].toArray 35)) W:=((uX _).alloc _).trans g
 exact⟨yQ g1 0 _ rfl,yQ g1 1 _ rfl,h⟩
theorem zt_facts {w:World} {X:Nat} (h:w.heap[X]? = some (.cells [.slice none 0 0,.slice none 0 0].toArray 35)):w.cell? ⟨X,0,none⟩=some (.slice none 0 0)∧w.cell? ⟨X,1,none⟩=some (.slice none 0 0)∧w.frozen? ⟨X,0,none⟩=false∧w.frozen? ⟨X,1,none⟩=false:=by
 simp[World.cell?,World.frozen?,h]
theorem four_grow {W W2:World} {A B C D:Addr} {x y z u:Value} (h:(W.cell? A=some x∧W.cell? B=some y)∧W.cell? C=some z∧W.cell? D=some u) (g:Grew W W2):(W2.cell? A=some x∧W2.cell? B=some y)∧W2.cell? C=some z∧W2.cell? D=some u:=⟨⟨uQ g h.1.1,uQ g h.1.2⟩,uQ g h.2.1,uQ g h.2.2⟩
theorem sameL (l:List Int) (v u:Value) (w:World) (hv:SlI w v l) (hu:SlI w u l):Calls Tryz.prog 27 #[v,u] w fun e w'=>e=.returned (.bool true)∧Grew w w':=by
 have:=equalI l l v u w hv hu
 rw[decide_eq_true rfl] at this
 exact this
theorem three_grow {W W2:World} {A B C:Addr} {x y z:Value} (h:W.cell? A=some x∧W.cell? B=some y∧W.cell? C=some z) (g:Grew W W2):W2.cell? A=some x∧W2.cell? B=some y∧W2.cell? C=some z:=⟨uQ g h.1,uQ g h.2.1,uQ g h.2.2⟩
theorem kids_few {l:List Br} {ks:List Int} {p:Int} (h:KidsAre l ks p):ks.length≤l.length:=by
 have h1:=List.Nodup.length_le_of_subset (l₂:=l.map Br.id) h.1 (fun x hx=>by
  obtain⟨b,hb,_,e⟩:=(h.2 x).1 hx
  exact List.mem_map.2 ⟨b,hb,e⟩)
 simpa using h1
theorem right_few {t:Tr} (h:RightT t):FewBr t.brs∧t.roots.length≤1000000:=by
 have hs:=((right_iff t).1 h).1
 have hl:=hs.len
 refine⟨⟨by omega,fun i hi=>?_⟩,?_⟩
 ·have:=kids_few (hs.kids _ (List.getElem_mem hi))
  omega
 ·have:=kids_few hs.roots
  omega
end Go.Proofs.YtafncfomiolmgaaGreatDoor
namespace Go.Proofs.YtafncfomiolmgaaGreatDoor
open Go.RowKit
theorem neqUself (w:World) (x0 x1 x2:Int) (x3 x4:ByteArray):(binOp .neq 51 (.agg #[.int .i64 x0,.int .i64 x1,.int .i64 x2,.string x3,.string x4]) (.agg #[.int .i64 x0,.int .i64 x1,.int .i64 x2,.string x3,.string x4])).run Tryz.prog w=.ok (.bool false) w:=by
 have hS:Tryz.prog.underlying 51=some (.struct (Tryz.prog.fieldsOf 51)):=by kernel_rfl
 have hp:Tryz.prog.stoodInHeld 51=false:=by kernel_rfl
 rw[run_neq_struct,show(10000:Nat)=9999+1 from rfl,run_equalIn_agg w 9999 51 _ _ hS hp]
 simp only [Program.fieldsOf,Tryz.underlying51]
 go_simp
set_option maxHeartbeats 4000000 in
theorem sameI19 (l:List Int) (v u:Value) (w:World) (hv:SlI w v l) (hu:SlI w u l):Calls Tryz.prog 60 #[v,u] w fun e w'=>e=.returned (.bool true)∧Grew w w':=by
 obtain⟨A,c,rfl,hlc,hc,hr⟩:=hv.open_
 obtain⟨A',c',rfl,hlc',hc',hr'⟩:=hu.open_
 unfold maxLen at hc hc'
 have HR:=uZ hr
 have HR':=uZ hr'
 have hne:((l.length:Int) != (l.length:Int))=false:=by simp
 clear hr hr' hv hu
 go_enter Tryz.func60,Tryz.ntmps60
 go_wp2
 go_loopg [5] l.length (fun gg s5 wr=>∃ k:Nat,k≤l.length∧l.length-k≤gg∧s5=.int .i64 k∧Aside (Grew w wr))
 case atStart=>exact⟨0,by omega,by omega,rfl,(show Aside _ from uX _)⟩
 case round =>
  obtain⟨k,hk,hgk,rfl,BW⟩:=hrel
  by_cases hlt:k<l.length
  ·have hltz:(k:Int)<(l.length:Int):=by omega
   have h0z:(0:Int)≤(k:Int):=by omega
   obtain⟨b,off,rfl,hb,hcell⟩:=HR.out b_37
   obtain⟨b',off',rfl,hb',hcell'⟩:=HR'.out b_37
   have c0:=hcell wr BW.out k hlt
   have d0:=hcell' wr BW.out k hlt
   generalize l[k]=y at c0 d0
   clear hcell hcell'
   go_wp2
   go_quiet (fail)
   clear c0 d0
   go_wp2
   go_roundg (l.length-(k+1))
   case measure=>omega
   case rel=>exact⟨k+1,by omega,by omega,by go_num,(show Aside _ from BW.out.drewN _)⟩
  ·have hltz:¬ (k:Int)<(l.length:Int):=by omega
   go_wp2
   go_ret
   exact⟨rfl,BW.out⟩
theorem same_size (w:World) (o:Obj):(w.alloc o).heap.size=w.heap.size+1:=by simp
set_option maxHeartbeats 8000000 in
set_option maxRecDepth 100000 in
theorem same19 (t:Tr) (ra ba rb bb:Value) (w:World) (ha:TrOk w ra ba t) (hb:TrOk w rb bb t):Calls Tryz.prog 21 #[.agg #[ra,ba],.agg #[rb,bb]] w fun e w'=>e=.returned (.bool true)∧Grew w w':=by
 have kS:=fun W (hW:Grew w W)=>sameI19 t.roots ra rb W (ha.1.mono hW) (hb.1.mono hW)
 obtain⟨Aa,ca,rfl,hal,hac,har⟩:=ha.2.open_
 obtain⟨Ab,cb,rfl,hbl,hbc,hbr⟩:=hb.2.open_
 unfold maxLen at hac hbc
 have HA:=uZ har
 have HB:=uZ hbr
 have KS:=uZ kS
 have hne:((t.brs.length:Int) != (t.brs.length:Int))=false:=by simp
 have HX:=uZ (fun W (g:Grew ((w.alloc (.cells [ra,.slice Aa t.brs.length ca].toArray 35)).alloc (.cells [rb,.slice Ab t.brs.length cb].toArray 35)) W)=>(show W.cell? ⟨w.heap.size,1,none⟩=some (.slice Aa t.brs.length ca)∧W.cell? ⟨w.heap.size+1,1,none⟩=some (.slice Ab t.brs.length cb) from⟨yQ (w:=w) (((uX _).alloc _).trans g) 1 _ rfl,by
  have:=yQ g 1 _ rfl
  rw[same_size] at this
  exact this⟩))
 clear har hbr kS ha hb
 go_enter Tryz.func21,Tryz.ntmps21
 go_wp2_with fail
 refine(KS.out _ (((uX w).alloc _).alloc _)).mono ?_
 rintro e w1 ⟨rfl,g1⟩
 obtain⟨x1,y1⟩:=HX.out w1 g1
 have HG1:=uZ ((((uX w).alloc _).alloc _).trans g1)
 have HXG:=uZ (fun W (g:Grew w1 W)=>HX.out W (g1.trans g))
 clear g1 HX
 dsimp only
 go_wp2
 clear x1 y1
 go_loopg [5] t.brs.length (fun gg s5 wr=>∃ k:Nat,k≤t.brs.length∧t.brs.length-k≤gg∧s5=.int .i64 k∧Aside (Grew w1 wr))
 case atStart=>exact⟨0,by omega,by omega,rfl,(show Aside _ from uX _)⟩
 case round =>
  obtain⟨k,hk,hgk,rfl,BW⟩:=hrel
  obtain⟨x1,y1⟩:=HXG.out wr BW.out
  by_cases hlt:k<t.brs.length
  ·have hltz:(k:Int)<(t.brs.length:Int):=by omega
   have h0z:(0:Int)≤(k:Int):=by omega
   obtain⟨b,off,rfl,hb,hcell⟩:=HA.out b_37
   obtain⟨b',off',rfl,hb',hcell'⟩:=HB.out b_37
   obtain⟨ka,hka,hca⟩:=hcell k hlt
   obtain⟨kb,hkb,hcb⟩:=hcell' k hlt
   have KK:=uZ (fun W (hW:Grew w W)=>sameI19 t.brs[k].kids ka kb W (hka.mono hW) (hkb.mono hW))
   obtain⟨c0,c1,c2,c3,c4,c5⟩:=hca wr (HG1.out.trans BW.out)
   obtain⟨d0,d1,d2,d3,d4,d5⟩:=hcb wr (HG1.out.trans BW.out)
   generalize t.brs[k]=y at c0 c1 c2 c3 c4 c5 d0 d1 d2 d3 d4 d5 KK
   obtain⟨yi,yp,yl,yt,ym,yk⟩:=y
   dsimp only at c0 c1 c2 c3 c4 c5 d0 d1 d2 d3 d4 d5 KK
   have kN:=fun w=>neqUself w yi yp yl yt ym
   have GW:=uZ (HG1.out.trans BW.out)
   clear hcell hcell' hka hkb hca hcb
   go_wp2
   have f1:=Gr.cell x1
   have g1:=Gr.cell y1
   have fc0:=Gr.cell c0
   have fc1:=Gr.cell c1
   have fc2:=Gr.cell c2
   have fc3:=Gr.cell c3
   have fc4:=Gr.cell c4
   have fc5:=Gr.cell c5
   have fd0:=Gr.cell d0
   have fd1:=Gr.cell d1
   have fd2:=Gr.cell d2
   have fd3:=Gr.cell d3
   have fd4:=Gr.cell d4
   have fd5:=Gr.cell d5
   clear x1 y1 c0 c1 c2 c3 c4 c5 d0 d1 d2 d3 d4 d5
   refine region_gr wr (by kernel_rfl) (by kernel_rfl) (uX _) ?_
   repeat (first|go_big_quiet_step ((exact Gr.calls _ (KK.out _ (GW.out.trans (Gr.g _)))))|quiet_step ((exact Gr.calls _ (KK.out _ (GW.out.trans (Gr.g _))))))
   refine wpQuiet_nil ?_
   intro _ hw'
   obtain⟨wi,rfl⟩:=hw'
   have HWI:=uZ (BW.out.trans wi.g)
   clear f1 g1 fc0 fc1 fc2 fc3 fc4 fc5 fd0 fd1 fd2 fd3 fd4 fd5
   go_wp2
   go_roundg (t.brs.length-(k+1))
   case measure=>omega
   case rel=>exact⟨k+1,by omega,by omega,by go_num,(show Aside _ from HWI.out)⟩
  ·have hltz:¬ (k:Int)<(t.brs.length:Int):=by omega
   go_wp2
   go_ret
   exact⟨rfl,HG1.out.trans BW.out⟩
end Go.Proofs.YtafncfomiolmgaaGreatDoor
namespace Go.Proofs.YtafncfomiolmgaaGreatDoor
open Go.RowKit
set_option maxRecDepth 100000 in
theorem c_44 {p:Prop} (h:p:=by
 go_wp2_with (at_builtin;refine app1H rfl _ _ 32 rfl w 3 i0 (.int .i64 0) 1 8 Tryz.underlying32 hi hz0 hz1 hz2 rfl b_37 _ _ _ b_39 wr OW.out BW.out wr.heap.size b_38 [.int .i64 y] b_39 rfl rfl b_34 b_37 ?_;intro v8 w8 hown8 hg8)
 have OW8:Aside _:=hown8
 have BW8:Aside _:=hg8
 clear hown8 hg8
 go_wp2
 go_roundg (l.length-(k+1))
 case measure=>omega
 case rel =>
  refine⟨k+1,by omega,by omega,by go_num,?_,BW8⟩
  have:=HT.out
  simp only [Bool.false_eq_true,if_false] at this
  rw[this,List.flatMap_append,List.length_append]
  exact OW8):p:=h
theorem ref21In (n lo hi:Int) (w:World):Calls Tryz.prog 42 #[.int .i64 n,.int .i64 lo,.int .i64 hi] w fun e w'=>e=.returned (.bool (within n lo hi))∧w=w':=by
 unfold within
 cases a1:decide (lo≤n)<;>cases a2:decide (n≤hi)
 all_goals
  go_enter Tryz.func42,Tryz.ntmps42
  go_wp2
  go_ret
  exact⟨rfl,rfl⟩
theorem ref21Has (l:List Int) (n:Int) (v:Value) (w:World) (hv:SlI w v l):Calls Tryz.prog 99 #[v,.int .i64 n] w fun e w'=>e=.returned (.bool (decide (n∈l)))∧w=w':=by
 obtain⟨A,c,rfl,hlc,hc,hr⟩:=hv.open_
 unfold maxLen at hc
 have HR:=uZ hr
 generalize hR:decide (n∈l)=R
 have HRes:=uZ hR
 clear hr hv hR
 go_enter Tryz.func99,Tryz.ntmps99
 go_wp2
 go_loop [5] (fun i=>∃ k:Nat,k≤l.length∧i=.int .i64 k∧Aside (∀ j (hj:j<l.length),j<k→l[j]≠n)) (fun i=>l.length-(intOf i).toNat)
 case atStart=>exact⟨0,Nat.zero_le _,rfl,fun j hj h=>absurd h (Nat.not_lt_zero _)⟩
 case round =>
  obtain⟨k,hk,rfl,M⟩:=hrel
  by_cases hlt:k<l.length
  ·have hltz:(k:Int)<(l.length:Int):=by omega
   have h0z:(0:Int)≤(k:Int):=by omega
   obtain⟨b,off,rfl,hb,hcell⟩:=HR.out b_37
   have c0:=hcell w (uX w) k hlt
   have HY:=uZ (show l[k]∈l from List.getElem_mem hlt)
   have HN:RowKit.Hid (l[k]≠n→∀ j (hj:j<l.length),j<k+1→l[j]≠n):=fun h j hj h2=>by
    exact c_69
   clear hcell
   generalize l[k]=y at c0 HY HN
   cases a1:(y == n) with
   | true =>
    go_wp2
    go_ret
    refine⟨?_,rfl⟩
    rw[← HRes.out]
    have:y=n:=by simpa using a1
    rw[← this]
    exact ret_bool (by simpa using HY.out)
   | false =>
    have HNN:=uZ (HN.out (by simpa using a1))
    clear HN
    go_wp2
    go_round
    case rel=>exact⟨k+1,by omega,by go_num,(show Aside _ from HNN.out)⟩
    case measure=>simp[intOf];omega
  ·have hltz:¬ (k:Int)<(l.length:Int):=by omega
   have HM:=uZ (show n∉l from fun h=>by
    obtain⟨j,hj,e⟩:=List.mem_iff_getElem.1 h
    exact M.out j hj b_37 e)
   clear M
   go_wp2
   go_ret
   refine⟨?_,rfl⟩
   rw[← HRes.out]
   exact ret_bool (by simpa using HM.out)
def RetOwnI (l:List Int) (w:World) (e:Ending) (w':World):Prop:=∃ v,e=.returned v∧w'.ownsRow w.heap.size 3 1 v l.length (l.flatMap oneI)∧Grew w w'
theorem without_take (l:List Int) (n:Int) (k:Nat) (hk:k<l.length):withoutF n (l.take (k+1))=withoutF n (l.take k)++(if l[k] == n then[] else[l[k]]):=by
 unfold withoutF
 rw[List.take_succ_eq_append_getElem hk,List.filter_append]
 congr 1
 by_cases h:(l[k] == n)=true
 ·simp[h]
 ·simp[h]
set_option maxRecDepth 100000 in
set_option maxHeartbeats 4000000 in
theorem ref21Without (l:List Int) (n:Int) (v:Value) (w:World) (hv:SlI w v l) (hl:l.length≤1000000):Calls Tryz.prog 104 #[v,.int .i64 n] w (RetOwnI (withoutF n l) w):=by
 obtain⟨A,c,rfl,hlc,hc,hr⟩:=hv.open_
 have HR:=uZ hr
 obtain⟨i0,hi,hz0,hz1,hz2⟩:=info_parts cinfoI
 clear hv hr hc hlc
 have hlen:∀ k,(withoutF n (l.take k)).length≤l.length:=fun k=>Nat.le_trans (List.length_filter_le _ _) b_32
 have HL:=uZ hlen
 have HT0:=uZ (fun k hk=>without_take l n k hk)
 have HFin:=uZ (show withoutF n (l.take l.length)=withoutF n l by rw[List.take_length])
 clear hlen
 generalize withoutF n l=OUT at HFin ⊢
 go_enter Tryz.func104,Tryz.ntmps104
 go_wp2
 go_loopg [5,6] l.length (fun gg s5 s6 wr=>∃ k:Nat,k≤l.length∧l.length-k≤gg∧s6=.int .i64 k∧Aside (wr.ownsRow w.heap.size 3 1 s5 (withoutF n (l.take k)).length ((withoutF n (l.take k)).flatMap oneI))∧Aside (Grew w wr))
 case atStart=>exact⟨0,by omega,by omega,rfl,(show Aside _ from World.ownsRow_nil _ _ _ _),(show Aside _ from uX w)⟩
 case round =>
  obtain⟨k,hkk,hgk,rfl,OW,BW⟩:=hrel
  by_cases hlt:k<l.length
  case neg =>
   have hltz:¬ (k:Int)<(l.length:Int):=by omega
   obtain rfl:k=l.length:=by omega
   have hO:=OW.out
   rw[HFin.out] at hO
   have HO:=uZ hO
   clear hO OW HT0
   go_wp2
   go_ret
   exact⟨_,rfl,HO.out,BW.out⟩
  have hltz:(k:Int)<(l.length:Int):=by omega
  have h0z:(0:Int)≤(k:Int):=by omega
  obtain⟨b,off,rfl,hb,hcell⟩:=HR.out b_37
  have c0:=hcell wr BW.out k hlt
  have HT:=uZ (HT0.out k hlt)
  have hlen:=HL.out k
  clear hcell HFin
  generalize l[k]=y at c0 HT
  obtain⟨A5,c5,rfl⟩:=own_slice OW.out
  cases a1:(y != n) with
  | false =>
   have a2:(y == n)=true:=by simpa using a1
   rw[a2] at HT
   go_wp2
   go_roundg (l.length-(k+1))
   case measure=>omega
   case rel =>
    refine⟨k+1,by omega,by omega,by go_num,?_,BW⟩
    have:=HT.out
    simp only [if_true,List.append_nil] at this
    rw[this]
    exact OW
  | true =>
   have a2:(y == n)=false:=by simpa using a1
   rw[a2] at HT
   exact c_44
def putR (n before:Int):List Int→List Int
 | []=>[]
 | x::r=>(if x == before then[n,x] else[x])++putR n before r
theorem putR_app (n before:Int):∀ l m:List Int,putR n before (l++m)=putR n before l++putR n before m
 | [],_=>rfl
 | x::r,m=>by
  show _++putR n before (r++m)=(_++putR n before r)++_
  rw[putR_app n before r m,List.append_assoc]
theorem putR_take (l:List Int) (n before:Int) (k:Nat) (hk:k<l.length):putR n before (l.take (k+1))=putR n before (l.take k)++(if l[k] == before then[n,l[k]] else[l[k]]):=by
 rw[List.take_succ_eq_append_getElem hk,putR_app]
 congr 1
 exact List.append_nil _
theorem putR_len (n before:Int):∀ l:List Int,(putR n before l).length≤2*l.length
 | []=>Nat.zero_le _
 | x::r=>by
  have:=putR_len n before r
  show((if x == before then[n,x] else[x])++putR n before r).length≤_
  rw[List.length_append,List.length_cons]
  split<;>simp<;>omega
theorem putR_no (n before:Int):∀ {l:List Int},before∉l→putR n before l=l
 | [],_=>rfl
 | x::r,h=>by
  have hx:(x == before)=false:=by simpa using fun e=>h (by rw[e];exact List.mem_cons_self ..)
  show(if x == before then[n,x] else[x])++putR n before r=_
  rw[hx,putR_no n before fun hm=>h (List.mem_cons_of_mem _ hm)]
  rfl
theorem putR_is {n before:Int}:∀ {l:List Int},l.Nodup→(0:Int)∉l→putF n before l=putR n before l++(if before=0 then[n] else[])
 | [],_,_=>rfl
 | x::r,hn,h0=>by
  have hn':=List.nodup_cons.1 hn
  have ih:=putR_is (n:=n) (before:=before) hn'.2 fun hm=>h0 (List.mem_cons_of_mem _ hm)
  show(if x=before then n::x::r else x::putF n before r)=((if x == before then[n,x] else[x])++putR n before r)++_
  by_cases e:x=before
  ·subst e
   have hx:x≠0:=fun e=>h0 (by rw[e];exact List.mem_cons_self ..)
   rw[if_pos rfl,putR_no n x hn'.1,if_neg hx]
   simp
  ·have hx:(x == before)=false:=by simpa using e
   rw[if_neg e,hx,ih]
   simp
theorem put_app {W:World} {b:Nat} {e:TypeId} {v:Value} {l:List Int} {x:Int} (h:W.ownsRow b e 1 v (l.length+[Value.int .i64 x].length) (l.flatMap oneI++[.int .i64 x])):W.ownsRow b e 1 v (l++[x]).length ((l++[x]).flatMap oneI):=by
 rw[List.flatMap_append,List.length_append]
 exact h
set_option maxRecDepth 100000 in
set_option maxHeartbeats 4000000 in
theorem ref21Put (l:List Int) (n before:Int) (v:Value) (w:World) (hv:SlI w v l) (hl:l.length≤1000000):Calls Tryz.prog 102 #[v,.int .i64 n,.int .i64 before] w (RetOwnI (putR n before l++(if before=0 then[n] else[])) w):=by
 obtain⟨A,c,rfl,hlc,hc,hr⟩:=hv.open_
 have HR:=uZ hr
 obtain⟨i0,hi,hz0,hz1,hz2⟩:=info_parts cinfoI
 clear hv hr hc hlc
 have HL:=uZ (fun k (hk:k≤l.length)=>show(putR n before (l.take k)).length≤2*l.length from Nat.le_trans (putR_len n before _) b_32)
 have HT0:=uZ (fun k hk=>putR_take l n before k hk)
 have HFin:=uZ (show putR n before (l.take l.length)=putR n before l by rw[List.take_length])
 generalize hOUT:putR n before l++(if before=0 then[n] else[])=OUT
 have HOUT:=uZ hOUT
 clear hOUT
 go_enter Tryz.func102,Tryz.ntmps102
 go_wp2
 go_loopg [7,8] l.length (fun gg s7 s8 wr=>∃ k:Nat,k≤l.length∧l.length-k≤gg∧s8=.int .i64 k∧Aside (wr.ownsRow w.heap.size 3 1 s7 (putR n before (l.take k)).length ((putR n before (l.take k)).flatMap oneI))∧Aside (Grew w wr))
 case atStart=>exact⟨0,by omega,by omega,rfl,(show Aside _ from World.ownsRow_nil _ _ _ _),(show Aside _ from uX w)⟩
 case round =>
  obtain⟨k,hkk,hgk,rfl,OW,BW⟩:=hrel
  by_cases hlt:k<l.length
  case neg =>
   have hltz:¬ (k:Int)<(l.length:Int):=by omega
   obtain rfl:k=l.length:=by omega
   have hO:=OW.out
   have hlen:=HL.out l.length (Nat.le_refl _)
   rw[HFin.out] at hO hlen
   have HO:=uZ hO
   clear hO OW HT0
   obtain⟨A5,c5,rfl⟩:=own_slice HO.out
   cases a1:(before == 0) with
   | false =>
    have a2:¬ before=0:=by simpa using a1
    have hx:=HOUT.out
    rw[if_neg a2,List.append_nil] at hx
    subst hx
    go_wp2
    go_ret
    exact⟨_,rfl,HO.out,BW.out⟩
   | true =>
    have a2:before=0:=by simpa using a1
    have hx:=HOUT.out
    rw[if_pos a2] at hx
    have HX:=uZ hx
    clear hx HOUT a2
    go_wp2_with (at_builtin;refine app1H rfl _ _ 32 rfl w 3 i0 (.int .i64 0) 1 8 Tryz.underlying32 hi hz0 hz1 hz2 rfl b_37 _ _ _ b_39 wr HO.out BW.out wr.heap.size b_38 [.int .i64 n] b_39 rfl rfl b_34 b_37 ?_;intro v8 w8 hown8 hg8;obtain⟨A8,c8,rfl⟩:=own_slice hown8;have HOW8:=uZ hown8;have HG8:=uZ hg8;clear hown8 hg8)
    go_ret
    refine⟨_,rfl,?_,HG8.out⟩
    rw[← HX.out,List.flatMap_append,List.length_append]
    exact HOW8.out
  have hltz:(k:Int)<(l.length:Int):=by omega
  have h0z:(0:Int)≤(k:Int):=by omega
  obtain⟨b,off,rfl,hb,hcell⟩:=HR.out b_37
  have c0:=hcell wr BW.out k hlt
  have HCX:=uZ (fun W hW=>hcell W hW k hlt)
  have HT:=uZ (HT0.out k hlt)
  have hlen:=HL.out k hkk
  clear hcell HFin HT0 HOUT
  generalize l[k]=y at c0 HT HCX
  obtain⟨A5,c5,rfl⟩:=own_slice OW.out
  cases a1:(y == before) with
  | false =>
   rw[a1] at HT
   exact c_44
  | true =>
   rw[a1] at HT
   go_wp2_with (first|(at_builtin;refine app1H rfl _ _ 32 rfl w 3 i0 (.int .i64 0) 1 8 Tryz.underlying32 hi hz0 hz1 hz2 rfl b_37 _ _ _ b_39 w8 HOW8.out HG8.out w8.heap.size b_38 [.int .i64 y] b_39 rfl rfl b_34 b_37 ?_;intro v9 w9 hown9 hg9;have HOW9:=uZ hown9;have HG9:=uZ hg9;clear hown9 hg9)|(at_builtin;refine app1H rfl _ _ 32 rfl w 3 i0 (.int .i64 0) 1 8 Tryz.underlying32 hi hz0 hz1 hz2 rfl b_37 _ _ _ b_39 wr OW.out BW.out wr.heap.size b_38 [.int .i64 n] b_39 rfl rfl b_34 b_37 ?_;intro v8 w8 hown8 hg8;have hown8:=put_app hown8;obtain⟨L1,hL1⟩:∃ L1,L1=putR n before (l.take k)++[n]:=⟨_,rfl⟩;rw[← hL1] at hown8;have hlen1:L1.length≤2*l.length+1:=(by rw[hL1,List.length_append];simp;omega);have HL1:=uZ hL1;clear hL1;obtain⟨A8,c8,rfl⟩:=own_slice hown8;have c8':=HCX.out w8 hg8;have HOW8:=uZ hown8;have HG8:=uZ hg8;clear hown8 hg8))
   go_roundg (l.length-(k+1))
   case measure=>omega
   case rel =>
    refine⟨k+1,by omega,by omega,by go_num,?_,(show Aside _ from HG9.out)⟩
    have:=HT.out
    simp only [if_true] at this
    have h9:=put_app HOW9.out
    rw[HL1.out] at h9
    rw[this,show putR n before (l.take k)++[n,y]=(putR n before (l.take k)++[n])++[y] by simp]
    exact h9
end Go.Proofs.YtafncfomiolmgaaGreatDoor
namespace Go.Proofs.YtafncfomiolmgaaGreatDoor
open Go.RowKit
def blk:Value→Option Nat
 | .slice (some a) n _=>if n=0 then none else some a.block
 | _=>none
theorem blk_some (a:Addr) (n c:Nat):blk (.slice (some a) n c)=if n=0 then none else some a.block:=rfl
theorem slI_blk {w:World} {v:Value} {l:List Int} {k:Nat} (h:SlI w v l) (hk:blk v=some k):k<w.heap.size:=by
 obtain⟨A,n,c,rfl,hl,hn,hc,h0⟩:=h
 cases A with
 | none=>cases hk
 | some a =>
  rw[blk_some] at hk
  by_cases hne:n=0
  ·rw[if_pos hne] at hk
   cases hk
  ·rw[if_neg hne] at hk
   obtain⟨b,off,e,hb,-⟩:=h0 b_37
   injection e with e
   subst e
   injection hk with hk
   subst hk
   exact hb
theorem blk_own {v:Value} {k:Nat} (h:blk v=some k):v.ownBlock=some k:=by
 cases v with
 | slice A n c =>
  cases A with
  | none=>cases h
  | some a =>
   rw[blk_some] at h
   by_cases hne:n=0
   ·rw[if_pos hne] at h
    cases h
   ·rw[if_neg hne] at h
    exact h
 | _=>cases h
theorem rd_blk {W:World} {k:Nat} {v:Value} {cs:List Value} {p:Addr} (u:Value) (h:Rd W k v cs) (hp:blk v≠some p.block):Rd (W.setCell p u) k v cs:=by
 obtain⟨A,n,c,rfl,hl,hn,hc,h0⟩:=h
 refine⟨A,n,c,rfl,hl,hn,hc,fun hpos=>?_⟩
 obtain⟨b,off,rfl,hb,hcell⟩:=h0 hpos
 refine⟨b,off,rfl,by simpa using hb,fun j x hx=>?_⟩
 rw[uV _ _ _ _ (fun e=>hp (by subst e;rw[blk_some,if_neg b_37]))]
 exact hcell j x hx
theorem rd_grownB {w w':World} {row:Option Nat} {k:Nat} {v:Value} {cs:List Value} (h:Rd w k v cs) (hg:w.grownBy w' row) (hr:∀ b,blk v=some b→row≠some b):Rd w' k v cs:=by
 obtain⟨A,n,c,rfl,hl,hn,hc,h0⟩:=h
 refine⟨A,n,c,rfl,hl,hn,hc,fun hp=>?_⟩
 obtain⟨b,off,rfl,hb,hcell⟩:=h0 hp
 exact⟨b,off,rfl,Nat.lt_of_lt_of_le hb hg.size,fun j u hu=>hg.cell (hcell j u hu) (fun e=>hr b (by rw[blk_some,if_neg b_37]) e.symm)⟩
def OffB (P:Nat→Prop) (s v:Value):Prop:=∀ k,blk v=some k→s.ownBlock≠some k∧P k
structure CopB (P:Nat→Prop) (base:Nat) (w:World) (bv:Value) (cs:List BrC) (l:List Br):Prop where
 brs:w.ownsRow base 53 6 bv l.length (cs.flatMap BrC.cells)
 len:cs.length=l.length
 each:∀ i (h:i<cs.length) (h':i<l.length),BrOk w cs[i] l[i]∧OffB P bv cs[i].kv
section
variable {P:Nat→Prop} {base:Nat} {w w2 w3:World} {bv bv':Value} {cs:List BrC} {l:List Br}
theorem CopB.done (h:CopB P base w bv cs l):SlBr w bv l:=⟨cs,Rd.of_own h.brs,h.len,fun i h1 h2=>(h.each i h1 h2).1⟩
theorem CopB.grew (h:CopB P base w bv cs l) (g:Grew w w2):CopB P base w2 bv cs l :=
 ⟨own_later h.brs g,h.len,fun i h1 h2=>⟨⟨(h.each i h1 h2).1.1,(h.each i h1 h2).1.2.mono g⟩,(h.each i h1 h2).2⟩⟩
theorem CopB.to (h:CopB P base w bv cs l) {Q:Nat→Prop} {b2:Nat} (hb:b2≤base) (hQ:∀ k,k<w.heap.size→P k→Q k):CopB Q b2 w bv cs l :=
 ⟨h.brs.mono hb,h.len,fun i h1 h2=>⟨(h.each i h1 h2).1,fun k hk=>⟨((h.each i h1 h2).2 k hk).1,hQ k (slI_blk (h.each i h1 h2).1.2 hk) ((h.each i h1 h2).2 k hk).2⟩⟩⟩
theorem CopB.none_:CopB P base w (.slice none 0 0) [] []:=⟨World.ownsRow_nil _ _ _ _,rfl,fun _ h=>absurd h (Nat.not_lt_zero _)⟩
theorem CopB.aside (h:CopB P base w bv cs l) (a:Addr) (u:Value) (h1:bv.ownBlock≠some a.block) (h2:¬ P a.block):CopB P base (w.setCell a u) bv cs l :=
 ⟨ownsRow_setCell_other h.brs h1 u,h.len,fun i k1 k2=>⟨⟨(h.each i k1 k2).1.1,rd_blk u (h.each i k1 k2).1.2 (fun e=>h2 ((h.each i k1 k2).2 _ e).2)⟩,(h.each i k1 k2).2⟩⟩
theorem CopB.step (h:CopB P base w bv cs l) (b:Br) (c:BrC) (g:Grew w w2) (hc:BrOk w2 c b) (h1:∀ k,blk c.kv=some k→w.heap.size≤k∧P k) (hgr:w2.grownBy w3 bv.ownBlock)
  (hown:w3.ownsRow base 53 6 bv' (l.length+1) (cs.flatMap BrC.cells++c.cells)) (hat:∀ b,bv'.ownBlock=some b→bv.ownBlock=some b∨w2.heap.size≤b):CopB P base w3 bv' (cs++[c]) (l++[b]):=by
 have hlow:=fun b hb=>(h.brs.lt b hb).2
 have hsz:=g.size
 refine⟨by rw[List.flatMap_append];simpa using hown,by simp[h.len],fun i hi hi'=>?_⟩
 have key:∀(d:BrC) (a:Br),BrOk w2 d a→OffB P bv d.kv→BrOk w3 d a∧OffB P bv' d.kv:=by
  intro d a hd hx
  refine⟨⟨hd.1,rd_grownB hd.2 hgr (fun b hb=>(hx b hb).1)⟩,fun b hb=>⟨fun e=>?_,(hx b hb).2⟩⟩
  rcases hat b e with h|h
  ·exact(hx b hb).1 h
  ·have:=slI_blk hd.2 hb;omega
 have hl:=h.len
 by_cases hik:i<cs.length
 ·have hil:i<l.length:=by omega
  rw[List.getElem_append_left hik,List.getElem_append_left hil]
  obtain⟨r1,r2⟩:=h.each i hik hil
  exact key _ _ ⟨r1.1,r1.2.mono g⟩ r2
 ·have:i=cs.length:=by simp at hi;omega
  subst this
  rw[List.getElem_append_right (Nat.le_refl _),List.getElem_append_right b_37]
  simp only [hl,Nat.sub_self,List.getElem_cons_zero]
  exact key c _ hc (fun b hb=>⟨fun e=>by have:=hlow b e;have:=(h1 b hb).1;omega,(h1 b hb).2⟩)
theorem CopB.poke (h:CopB P base w bv cs l) {i j:Nat} (hi:i<cs.length) (hi':i<l.length) (hj:j<6) {c':BrC} {b':Br} {u:Value} (hc:c'.cells=cs[i].cells.set j u) (hb:c'=b'.c c'.kv) (hk:SlI w c'.kv b'.kids) (ho:OffB P bv c'.kv) {B cap:Nat} (hbv:bv=.slice (some ⟨B,0,none⟩) l.length cap) :
  CopB P base (w.setCell ⟨B,i*6+j,none⟩ u) bv (cs.set i c') (l.set i b'):=by
 subst hbv
 have hset:∀ {v:Value} {ks:List Int},SlI w v ks→OffB P (.slice (some ⟨B,0,none⟩) l.length cap) v→SlI (w.setCell ⟨B,i*6+j,none⟩ u) v ks:=fun hv hx=>rd_blk u hv (fun e=>(hx _ e).1 rfl)
 refine⟨?_,by simp[h.len],fun m hm hm'=>?_⟩
 ·have h1:=(h.brs.stored (i*6+j) u).1
  rw[flat_set hj hc cs i hi rfl] at h1
  simpa using h1
 ·have hm2:m<cs.length:=by simpa using hm
  have hm3:m<l.length:=by simpa using hm'
  by_cases e:m=i
  ·subst e
   rw[List.getElem_set_self,List.getElem_set_self]
   exact⟨⟨hb,hset hk ho⟩,ho⟩
  ·rw[List.getElem_set_ne b_37,List.getElem_set_ne b_37]
   obtain⟨e1,e2⟩:=h.each m hm2 hm3
   exact⟨⟨e1.1,hset e1.2 e2⟩,e2⟩
theorem CopB.cells (h:CopB P base w bv cs l) {k:Nat} (hk:k<l.length):∃ B cap kv,bv=.slice (some ⟨B,0,none⟩) l.length cap∧base≤B∧B<w.heap.size∧SlI w kv l[k].kids∧OffB P bv kv∧(∀ j,w.frozen? ⟨B,j,none⟩=false) ∧
  w.cell? ⟨B,k*6,none⟩=some (.int .i64 l[k].id)∧w.cell? ⟨B,k*6+1,none⟩=some (.int .i64 l[k].parent)∧w.cell? ⟨B,k*6+2,none⟩=some (.int .i64 l[k].level)∧w.cell? ⟨B,k*6+3,none⟩=some (.string l[k].title)∧w.cell? ⟨B,k*6+4,none⟩=some (.string l[k].mark)∧w.cell? ⟨B,k*6+5,none⟩=some kv:=by
 have hic:k<cs.length:=by have:=h.len;omega
 obtain⟨e1,e2⟩:=h.each k hic hk
 obtain⟨B,cap,hbv,hbb,-,-⟩:=own_form h.brs b_37
 subst hbv
 have hlt:=h.brs.lt B rfl
 have key:∀ j,j<6→w.cell? ⟨B,k*6+j,none⟩=cs[k].cells[j]?:=fun j hj=>by
  rw[h.brs.cellAt (k*6+j) b_37,flatMap_get BrC.cells 6 (fun _=>rfl) cs k j hic hj]
 have e3:=e1.1
 rw[e3] at key
 exact⟨B,cap,cs[k].kv,rfl,hlt.1,hlt.2,e1.2,e2,fun j=>h.brs.frozenAt _,key 0 b_37,key 1 b_37,key 2 b_37,key 3 b_37,key 4 b_37,key 5 b_37⟩
end
def RetCop (t:Tr) (w:World) (e:Ending) (w':World):Prop:=∃ rv bv cs,e=.returned (.agg #[rv,bv])∧SlI w' rv t.roots∧OffB (fun k=>w.heap.size≤k) bv rv∧CopB (fun k=>w.heap.size≤k) w.heap.size w' bv cs t.brs∧Grew w w'
end Go.Proofs.YtafncfomiolmgaaGreatDoor