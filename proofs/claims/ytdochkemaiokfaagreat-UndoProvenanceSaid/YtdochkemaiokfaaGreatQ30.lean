/- Lemmas on what the functions of the program and of the library compute: PvB, PvC, InsC. The conditions stand at each. -/
import Derived.Test.YtdochkemaiokfaaGreatQ29
import Derived.BigQuiet
import Derived.Test.YtdochkemaiokfaaGreatQ2
import Derived.Test.YtdochkemaiokfaaGreatQ8
import Derived.Test.YtdochkemaiokfaaGreatQ4
/- provenance: clash, Of, walked. The condition: the list is short. -/
namespace Go.Proofs.YtdochkemaiokfaaGreat
open Go.RowKit
set_option maxHeartbeats 4000000 in
theorem pClash (l:List Cm) (c:Cm) (lv:Value) (w:World) (hv:SlC w lv l):Calls Tryz.prog 124 #[lv,c.agg] w fun e w'=>e=.returned (.int .i64 (clashF l c))∧Grew w w':=by
 have kA:=fun(SB CB:Nat) W (hW:Grew w W) (h:∀ W2,Grew W W2→W2.cell? ⟨CB,2,none⟩=some (.int .i64 c.acc)∧W2.cell? ⟨CB,3,none⟩=some (.int .i64 c.num)∧W2.cell? ⟨SB,0,none⟩=some (.func (.func 175) #[] #[.pointer (some ⟨CB,0,none⟩)])) =>
  containsFuncC l (fun x=>x.acc == c.acc && x.num == c.num) _ #[.pointer (some ⟨SB,0,none⟩),.pointer (some ⟨CB,0,none⟩)] enters_pClash2 lv W (hv.mono hW) (fun W2 x hg _=>pClash2 x c SB CB W2 (h W2 hg).1 (h W2 hg).2.1 (h W2 hg).2.2)
 have kB:=fun(SB CB:Nat) W (hW:Grew w W) (h:∀ W2,Grew W W2→W2.cell? ⟨CB,2,none⟩=some (.int .i64 c.acc)∧W2.cell? ⟨CB,1,none⟩=some (.int .i64 c.office)∧W2.cell? ⟨SB,0,none⟩=some (.func (.func 175) #[] #[.pointer (some ⟨CB,0,none⟩)])) =>
  containsFuncC l (fun x=>x.acc == c.acc && x.office != c.office) _ #[.pointer (some ⟨SB,0,none⟩),.pointer (some ⟨CB,0,none⟩)] enters_pClash3 lv W (hv.mono hW) (fun W2 x hg _=>pClash3 x c SB CB W2 (h W2 hg).1 (h W2 hg).2.1 (h W2 hg).2.2)
 unfold clashF
 generalize (l.any fun x=>x.acc == c.acc && x.num == c.num)=qa at kA ⊢
 generalize (l.any fun x=>x.acc == c.acc && x.office != c.office)=qb at kB ⊢
 obtain⟨A,cc,rfl,-⟩:=hv.open_
 obtain⟨cu,co,ca,cn⟩:=c
 unfold Cm.agg
 dsimp only at kA kB ⊢
 have KA:=Lib.hid kA
 have KB:=Lib.hid kB
 clear kA kB hv
 by_cases h0:ca=0
 ·have hb:(ca == 0)=true:=by simpa using h0
  rw[if_pos h0]
  clear h0
  go_enter Tryz.func124,Tryz.ntmps124
  go_wp2
  go_ret
  exact⟨rfl,(Grew.refl w).alloc _⟩
 ·have hb:(ca == 0)=false:=by simpa using h0
  rw[if_neg h0]
  clear h0
  have HW:RowKit.Hid (∀ W,Grew ((w.alloc (.cells #[.int .i64 cu,.int .i64 co,.int .i64 ca,.int .i64 cn] 69)).alloc (.cells #[.func (.func 175) #[] #[.pointer (some ⟨w.heap.size,0,none⟩)]] 96)) W→W.cell? ⟨w.heap.size,1,none⟩=some (.int .i64 co)∧W.cell? ⟨w.heap.size,2,none⟩=some (.int .i64 ca)∧W.cell? ⟨w.heap.size,3,none⟩=some (.int .i64 cn)∧W.cell? ⟨w.heap.size+1,0,none⟩=some (.func (.func 175) #[] #[.pointer (some ⟨w.heap.size,0,none⟩)])):=fun W hW=>by
   have g1:=((Grew.refl (w.alloc (.cells #[.int .i64 cu,.int .i64 co,.int .i64 ca,.int .i64 cn] 69))).alloc (.cells #[.func (.func 175) #[] #[.pointer (some ⟨w.heap.size,0,none⟩)]] 96)).trans hW
   have hs:=new_cell hW 0 _ rfl
   rw[World.size_alloc] at hs
   exact⟨new_cell g1 1 _ rfl,new_cell g1 2 _ rfl,new_cell g1 3 _ rfl,hs⟩
  have hG1:Grew w ((w.alloc (.cells #[.int .i64 cu,.int .i64 co,.int .i64 ca,.int .i64 cn] 69)).alloc (.cells #[.func (.func 175) #[] #[.pointer (some ⟨w.heap.size,0,none⟩)]] 96)):=((Grew.refl w).alloc _).alloc _
  have HG1:=Lib.hid hG1
  clear hG1
  have ka:=KA.out (w.heap.size+1) w.heap.size _ HG1.out (fun W hW=>⟨(HW.out W hW).2.1,(HW.out W hW).2.2.1,(HW.out W hW).2.2.2⟩)
  have KA1:=Lib.hid ka
  clear ka KA
  have ho:(Value.func (.func 175) #[] #[.pointer (some ⟨w.heap.size,0,none⟩)]).oneCell'=true:=by simp[Value.oneCell']
  go_enter Tryz.func124,Tryz.ntmps124
  go_wp2_with fail
  refine KA1.out.mono ?_
  rintro e w1 ⟨rfl,g1⟩
  have kb:=KB.out (w.heap.size+1) w.heap.size w1 (HG1.out.trans g1) (fun W hW=>⟨(HW.out W (g1.trans hW)).2.1,(HW.out W (g1.trans hW)).1,(HW.out W (g1.trans hW)).2.2.2⟩)
  have KB1:=Lib.hid kb
  have HG2:=Lib.hid (HG1.out.trans g1)
  clear kb KB g1 HW KA1 HG1 ho
  dsimp only
  cases qa with
  | true =>
   go_wp2
   go_ret
   exact⟨rfl,HG2.out⟩
  | false =>
   go_wp2_with fail
   refine KB1.out.mono ?_
   rintro e w2 ⟨rfl,g2⟩
   have HG3:=Lib.hid (HG2.out.trans g2)
   clear g2
   dsimp only
   cases qb
   all_goals
    go_wp2
    go_ret
    exact⟨rfl,HG3.out⟩
theorem pOf1 (UB:Nat) (u:Int) (x:Cm) (w:World) (h:w.cell? ⟨UB,0,none⟩=some (.int .i64 u)):Calls Tryz.prog 62 (#[x.agg] ++ #[.pointer (some ⟨UB,0,none⟩)]) w fun e w'=>e=.returned (.bool (x.unit == u))∧Grew w w':=by
 obtain⟨xu,xo,xa,xn⟩:=x
 unfold Cm.agg
 have h3:=keep_cell ((Grew.refl w).alloc (.cells #[.int .i64 xu,.int .i64 xo,.int .i64 xa,.int .i64 xn] 69)) h
 go_enter Tryz.func62,Tryz.ntmps62
 go_wp2
 go_ret
 exact⟨rfl,(Grew.refl w).alloc _⟩
theorem enters_pOf1:∀ args w,(callFunc 62 args).run Tryz.prog w=.ok (.enter 62 args) w:=enters_of Tryz.func62 (by kernel_rfl) rfl
def cm0:Cm:=⟨0,0,0,0⟩
def RetOf (R:Option Cm) (w:World) (e:Ending) (w':World):Prop:=e=.returned (.tuple #[.agg #[.int .i64 (R.getD cm0).office,.int .i64 (R.getD cm0).acc,.int .i64 (R.getD cm0).num],.bool R.isSome])∧Grew w w'
theorem of_idx (l:List Cm) (u:Int):(ofC l u=none∧idxP (fun c=>c.unit == u) l=-1)∨∃ k,∃ h:k<l.length,ofC l u=some l[k]∧idxP (fun c=>c.unit == u) l=(k:Int):=by
 by_cases h:l.any (fun c=>c.unit == u)=true
 ·obtain⟨m,hm,h1,h2⟩:=idxP_find _ l h
  refine .inr ⟨m,hm,?_,idxP_hit _ l m hm h1 h2⟩
  unfold ofC
  rw[List.find?_eq_some_iff_getElem]
  exact⟨h1,m,hm,rfl,fun j hj=>by simpa using h2 j (by omega) hj⟩
 ·simp only [Bool.not_eq_true] at h
  refine .inl ⟨?_,idxP_miss _ l fun i hi=>?_⟩
  ·unfold ofC
   rw[List.find?_eq_none]
   intro x hx
   rw[List.any_eq_false] at h
   exact h x hx
  ·rw[List.any_eq_false] at h
   simpa using h l[i] (List.getElem_mem hi)
set_option maxHeartbeats 2000000 in
theorem pOf (l:List Cm) (u:Int) (lv:Value) (w:World) (hv:SlC w lv l) (hlen:l.length≤1000000):Calls Tryz.prog 39 #[lv,.int .i64 u] w (RetOf (ofC l u) w):=by
 have kI:=fun UB W (hW:Grew w W) (h:∀ W2,Grew W W2→W2.cell? ⟨UB,0,none⟩=some (.int .i64 u))=>indexFuncC l (fun c=>c.unit == u) _ #[.pointer (some ⟨UB,0,none⟩)] enters_pOf1 lv W (hv.mono hW) (fun W2 x hg _=>pOf1 UB u x W2 (h W2 hg))
 have hcase:=of_idx l u
 obtain⟨A,c,rfl,hlc,hcap,hr⟩:=hv.open_
 unfold maxLen at hcap
 have HR:=Lib.hid hr
 have HU:=Lib.hid (fun(W:World) (g:Grew ((w.alloc (.cells #[.int .i64 u] 3)).alloc (.cells #[.int .i64 0,.int .i64 0,.int .i64 0] 24)) W)=>(show W.cell? ⟨w.heap.size,0,none⟩=some (.int .i64 u) from new_cell (w:=w) (((Grew.refl _).alloc _).trans g) 0 _ rfl))
 have ka:=kI w.heap.size _ (((Grew.refl w).alloc (.cells #[.int .i64 u] 3)).alloc (.cells #[.int .i64 0,.int .i64 0,.int .i64 0] 24)) (fun W hW=>HU.out W hW)
 have HG0:=Lib.hid (((Grew.refl w).alloc (.cells #[.int .i64 u] 3)).alloc (.cells #[.int .i64 0,.int .i64 0,.int .i64 0] 24))
 have HB:=Lib.hid (fun(W:World) (g:Grew ((w.alloc (.cells #[.int .i64 u] 3)).alloc (.cells #[.int .i64 0,.int .i64 0,.int .i64 0] 24)) W)=>(show W.heap[w.heap.size+1]? = some (.cells #[.int .i64 0,.int .i64 0,.int .i64 0] 24 (0,0)) from by
  have:=heapKeep g (heapNew (w.alloc (.cells #[.int .i64 u] 3)) (.cells #[.int .i64 0,.int .i64 0,.int .i64 0] 24))
  rwa [World.size_alloc] at this))
 generalize idxP (fun c=>c.unit == u) l=ix at ka hcase
 have KA:=Lib.hid ka
 clear kI hr hv ka HU
 rcases hcase with ⟨ho,rfl⟩|⟨k,hk,ho,rfl⟩
 ·rw[ho]
  clear ho
  unfold RetOf cm0
  dsimp only [Option.getD_none,Option.isSome_none]
  go_enter Tryz.func39,Tryz.ntmps39
  go_wp2_with fail
  refine KA.out.mono ?_
  rintro e w1 ⟨rfl,g1⟩
  have hb:=HB.out w1 g1
  have q0:w1.cell? ⟨w.heap.size+1,0,none⟩=some (.int .i64 0):=cellOf hb rfl
  have q1:w1.cell? ⟨w.heap.size+1,1,none⟩=some (.int .i64 0):=cellOf hb rfl
  have q2:w1.cell? ⟨w.heap.size+1,2,none⟩=some (.int .i64 0):=cellOf hb rfl
  have z0:=freeOf (i:=0) hb
  have z1:=freeOf (i:=1) hb
  have z2:=freeOf (i:=2) hb
  have HG1:=Lib.hid (HG0.out.trans g1)
  clear g1
  have HB1:=Lib.hid hb
  dsimp only
  have hs:=set3 hb (.int .i64 0) (.int .i64 0) (.int .i64 0)
  have r0:=cellOf (i:=0) (x:=.int .i64 0) hs rfl
  have r1:=cellOf (i:=1) (x:=.int .i64 0) hs rfl
  have r2:=cellOf (i:=2) (x:=.int .i64 0) hs rfl
  clear hs hb
  go_wp2
  refine bodyPost_ret (v:=.tuple #[.agg #[.int .i64 0,.int .i64 0,.int .i64 0],.bool false]) (by simp[results,Tryz.results39,go_sem,r0,r1,r2]) rfl ⟨rfl,grew3B HG1.out (Nat.le_succ _) _ _ _⟩
 ·rw[ho]
  clear ho
  have hkz:(k:Int)<(l.length:Int):=by omega
  obtain⟨b,off,rfl,hbb,hcell⟩:=HR.out (by omega)
  have hck:=fun W hW=>hcell W hW k hk
  clear hcell
  generalize l[k]=y at hck ⊢
  obtain⟨yu,yo,ya,yn⟩:=y
  have HCK:=Lib.hid hck
  clear hck
  unfold RetOf
  dsimp only [Option.getD_some,Option.isSome_some]
  go_enter Tryz.func39,Tryz.ntmps39
  go_wp2_with fail
  refine KA.out.mono ?_
  rintro e w1 ⟨rfl,g1⟩
  have hb:=HB.out w1 g1
  have q0:w1.cell? ⟨w.heap.size+1,0,none⟩=some (.int .i64 0):=cellOf hb rfl
  have q1:w1.cell? ⟨w.heap.size+1,1,none⟩=some (.int .i64 0):=cellOf hb rfl
  have q2:w1.cell? ⟨w.heap.size+1,2,none⟩=some (.int .i64 0):=cellOf hb rfl
  have z0:=freeOf (i:=0) hb
  have z1:=freeOf (i:=1) hb
  have z2:=freeOf (i:=2) hb
  have HG1:=Lib.hid (HG0.out.trans g1)
  obtain⟨c0,c1,c2,c3⟩:=HCK.out w1 HG1.out
  clear g1
  have HB1:=Lib.hid hb
  dsimp only
  have hs:=set3 hb (.int .i64 yo) (.int .i64 ya) (.int .i64 yn)
  have r0:=cellOf (i:=0) (x:=.int .i64 yo) hs rfl
  have r1:=cellOf (i:=1) (x:=.int .i64 ya) hs rfl
  have r2:=cellOf (i:=2) (x:=.int .i64 yn) hs rfl
  clear hs hb
  go_wp2
  refine bodyPost_ret (v:=.tuple #[.agg #[.int .i64 yo,.int .i64 ya,.int .i64 yn],.bool true]) (by simp[results,Tryz.results39,go_sem,r0,r1,r2]) rfl ⟨rfl,grew3B HG1.out (Nat.le_succ _) _ _ _⟩
end Go.Proofs.YtdochkemaiokfaaGreat
/- provenance: Check, right, walked: whether the evidence is right. The condition: the list is short. -/
namespace Go.Proofs.YtdochkemaiokfaaGreat
open Go.RowKit
def rightCB (l:List Cm):Bool:=decide (l.length≤256) && rightC [] l
def RetPC (G:Bool) (w:World) (e:Ending) (w':World):Prop:=∃ i n,e=.returned (.tuple #[.int .i64 i,.int .i64 n])∧(n=0↔G=true)∧Grew w w'
def prevB (l:List Cm) (k:Nat) (y:Cm):Bool:=match (l.take k).getLast? with
 | none=>true
 | some p=>decide (p.unit<y.unit)
theorem rightC_step (l:List Cm) (k:Nat) (h:k<l.length):rightC (l.take k) (l.drop k)=(aloneC l[k] && (prevB l k l[k] && (clashF (l.take k) l[k] == 0 && rightC (l.take (k+1)) (l.drop (k+1))))):=by
 rw[List.drop_eq_getElem_cons h,rightC,List.take_succ_eq_append_getElem h]
 rfl
theorem prevB_zero (l:List Cm) (y:Cm):prevB l 0 y=true:=by simp[prevB]
theorem prevB_succ (l:List Cm) (k:Nat) (h:k<l.length) (y:Cm):prevB l (k+1) y=decide (l[k].unit<y.unit):=by
 unfold prevB
 rw[List.take_succ_eq_append_getElem h,List.getLast?_append]
 simp
theorem slC_take {W:World} {A:Option Addr} {n c k:Nat} {l:List Cm} (h:SlC W (.slice A n c) l) (hk:k≤n):SlC W (.slice A k c) (l.take k):=by
 have:=preV_rd h hk
 have hf:=(flat_take (f:=Cm.cells) (k:=4) (fun _=>rfl) l k).1
 rw[hf] at this
 exact this
set_option maxHeartbeats 8000000 in
set_option maxRecDepth 100000 in
theorem pCheck (l:List Cm) (lv:Value) (w:World) (hv:SlC w lv l):Calls Tryz.prog 173 #[lv] w (RetPC (rightCB l) w):=by
 have kC:=fun k c W v (hW:Grew w W) (h:SlC W v (l.take k))=>pClash (l.take k) c v W h
 have HS:=Lib.hid (rightC_step l)
 have HP:=Lib.hid (fun k (h:k<l.length) y=>prevB_succ l k h y)
 have HT:=Lib.hid (fun(A:Option Addr) c k W (h:SlC W (.slice A l.length c) l) (hk:k≤l.length)=>slC_take h hk)
 obtain⟨i0,hi,-,-,-⟩:=info_parts cinfoC
 have HV:=Lib.hid hv
 obtain⟨A,c,rfl,hlc,hcap,hr⟩:=hv.open_
 unfold maxLen at hcap
 have hpt:=fun k (hk:k≤l.length)=>part_to (P:=Tryz.prog) Tryz.underlying50 hi A l.length c k hk hlc
 have HPT:=Lib.hid hpt
 have HR:=Lib.hid hr
 have KC:=Lib.hid kC
 unfold rightCB RetPC
 clear hv hr kC hpt hi
 by_cases hbig:256<l.length
 ·rw[decide_eq_false (by omega),Bool.false_and]
  have hb:(256:Int)<(l.length:Int):=by omega
  clear HS HP HT KC HPT
  go_enter Tryz.func173,Tryz.ntmps173
  go_wp2
  go_ret2
  exact⟨-1,8,rfl,by simp,Grew.refl w⟩
 rw[decide_eq_true (by omega),Bool.true_and]
 have hb:¬ (256:Int)<(l.length:Int):=by omega
 have hGG:rightC [] l=rightC (l.take 0) (l.drop 0):=by simp
 generalize rightC [] l=GG at hGG ⊢
 have HG0:=Lib.hid hGG
 clear hGG
 go_enter Tryz.func173,Tryz.ntmps173
 go_wp2
 go_loopg [12] l.length (fun gg s12 wr=>∃ kk:Nat,kk≤l.length∧l.length-kk≤gg∧s12=.int .i64 kk∧Aside (Grew w wr)∧Aside (GG=rightC (l.take kk) (l.drop kk)))
 case atStart=>exact⟨0,by omega,by omega,rfl,(show Aside _ from Grew.refl w),HG0.out⟩
 case round =>
  obtain⟨kk,hkk,hgk,rfl,GW,GK⟩:=hrel
  by_cases hlt:kk<l.length
  case neg =>
   have hltz:¬ (kk:Int)<(l.length:Int):=by omega
   have hG:=GK.out
   rw[List.drop_of_length_le (by omega),rightC] at hG
   have HGG:=Lib.hid hG
   clear hG
   go_wp2
   go_ret2
   exact⟨-1,0,rfl,by simp[HGG.out],GW.out⟩
  case pos =>
   have hltz:(kk:Int)<(l.length:Int):=by omega
   have HST:=Lib.hid (HS.out kk hlt)
   have HCL:=Lib.hid (fun(W:World) (hW:Grew w W)=>KC.out kk l[kk] W (.slice A kk c) hW (HT.out A c kk W (HV.out.mono hW) (by omega)))
   have hsl:=HPT.out kk (by omega)
   obtain⟨b,off,rfl,hbb,hcell⟩:=HR.out (by omega)
   obtain⟨c0,c1,c2,c3⟩:=hcell wr GW.out kk hlt
   have HPV:RowKit.Hid (∀ y:Cm,kk=0∧prevB l kk y=true∨∃ z:Int,wr.cell? ⟨b,off+(kk-1)*4,none⟩=some (.int .i64 z)∧0<kk∧prevB l kk y=decide (z<y.unit)):=fun y=>by
    cases kk with
    | zero=>exact .inl ⟨rfl,prevB_zero l y⟩
    | succ k=>exact .inr ⟨l[k].unit,(hcell wr GW.out k (by omega)).1,by omega,HP.out k (by omega) y⟩
   generalize l[kk]=y at c0 c1 c2 c3 HST HCL
   have hpv:=HPV.out y
   have HAL:=Lib.hid (fun W=>pAlone y W)
   have hst:=HST.out
   rw[← GK.out] at hst
   generalize prevB l kk y=pb at hpv hst
   generalize aloneC y=qa at HAL hst
   generalize clashF (l.take kk) y=cl at HCL hst
   generalize hG2:rightC (l.take (kk+1)) (l.drop (kk+1))=G2 at hst
   have HG2E:=Lib.hid hG2.symm
   clear hG2
   have HST2:=Lib.hid hst
   clear hcell HPV HST GK hst
   obtain⟨y0,y1,y2,y3⟩:=y
   unfold Cm.agg at HAL HCL
   dsimp only at HAL HCL c0 c1 c2 c3 hpv
   go_wp2_with fail
   refine(HAL.out _).mono ?_
   rintro e w1 ⟨rfl,g1⟩
   have x0:=new_cell g1 0 _ rfl
   have x1:=new_cell g1 1 _ rfl
   have x2:=new_cell g1 2 _ rfl
   have x3:=new_cell g1 3 _ rfl
   have HG1:=Lib.hid ((GW.out.alloc (.cells #[.int .i64 y0,.int .i64 y1,.int .i64 y2,.int .i64 y3] 69)).trans g1)
   have hpv1:=fun z h=>keep_cell (((Grew.refl wr).alloc (.cells #[.int .i64 y0,.int .i64 y1,.int .i64 y2,.int .i64 y3] 69)).trans g1) (v:=.int .i64 z) (p:=⟨b,off+(kk-1)*4,none⟩) h
   clear g1 c0 c1 c2 c3
   dsimp only
   cases qa with
   | false =>
    have HNO:RowKit.Hid (GG=false):=by
     show GG=false
     rw[HST2.out]
     rfl
    clear hpv hpv1 x0 x1 x2 x3
    go_wp2
    go_ret2
    exact⟨_,2,rfl,by simp[HNO.out],HG1.out⟩
   | true =>
    rcases hpv with ⟨hk0,hpb⟩|⟨z,hz,hpos,hpb⟩
    ·subst hpb
     have hposz:decide ((0:Int)<(kk:Int))=false:=by rw[decide_eq_false_iff_not];omega
     have hposn:decide (0<kk)=false:=by rw[decide_eq_false_iff_not];omega
     clear hpv1 hk0
     go_wp2_with fail
     go_quiet (fail)
     go_wp2_with fail
     have u0:=Gr.cell x0
     have u1:=Gr.cell x1
     have u2':=Gr.cell x2
     have u3':=Gr.cell x3
     refine region_gr w1 (by kernel_rfl) (by kernel_rfl) ((Grew.refl _).drewN _) ?_
     repeat (first|go_big_quiet_step ((with_reducible exact Gr.calls _ (HCL.out _ (HG1.out.trans (Gr.g _)))))|quiet_step ((with_reducible exact Gr.calls _ (HCL.out _ (HG1.out.trans (Gr.g _))))))
     refine wpQuiet_nil ?_
     intro _ hw'
     obtain⟨wi,rfl⟩:=hw'
     have HG2:=Lib.hid (HG1.out.trans wi.g)
     clear u0 u1 u2' u3' x0 x1 x2 x3
     by_cases hc:cl=0
     ·subst hc
      have hb2:((0:Int) != 0)=false:=rfl
      have HNX:RowKit.Hid (GG=G2):=by
       show GG=G2
       rw[HST2.out]
       simp
      go_wp2
      go_roundg (l.length-(kk+1))
      case measure=>omega
      case rel=>exact⟨kk+1,by omega,by omega,by go_num,(show Aside _ from HG2.out),(show Aside _ from HNX.out.trans HG2E.out)⟩
     ·have hb2:(cl != 0)=true:=by simpa using hc
      have HNO:RowKit.Hid (GG=false):=by
       show GG=false
       rw[HST2.out,beq_eq_false_iff_ne.2 hc]
       simp
      have HNC:=Lib.hid hc
      clear hc
      go_wp2
      go_ret2
      exact⟨_,_,rfl,by rw[HNO.out];simp[HNC.out],HG2.out⟩
    ·have d0:=hpv1 z hz
     have hposz:(0:Int)<(kk:Int):=by omega
     have hwr:IntKind.i64.wrap ((kk:Int)-1)=(kk:Int)-1:=IntWalk.i64_in _ (by omega)
     clear hpv1 hz
     by_cases hzy:y0≤z
     ·have HNO:RowKit.Hid (GG=false):=by
       show GG=false
       rw[HST2.out,hpb,decide_eq_false (by omega)]
       rfl
      clear hpb
      go_wp2_with fail
      go_quiet (fail)
      go_wp2
      go_ret2
      exact⟨_,5,rfl,by simp[HNO.out],HG1.out.drewN _⟩
     ·have hzy':decide (y0≤z)=false:=by simpa using hzy
      have hst1:pb=true:=by rw[hpb];simpa using hzy
      clear hpb hzy
      go_wp2_with fail
      go_quiet (fail)
      go_wp2_with fail
      have u0:=Gr.cell x0
      have u1:=Gr.cell x1
      have u2':=Gr.cell x2
      have u3':=Gr.cell x3
      refine region_gr w1 (by kernel_rfl) (by kernel_rfl) ((Grew.refl _).drewN _) ?_
      repeat (first|go_big_quiet_step ((with_reducible exact Gr.calls _ (HCL.out _ (HG1.out.trans (Gr.g _)))))|quiet_step ((with_reducible exact Gr.calls _ (HCL.out _ (HG1.out.trans (Gr.g _))))))
      refine wpQuiet_nil ?_
      intro _ hw'
      obtain⟨wi,rfl⟩:=hw'
      have HG2:=Lib.hid (HG1.out.trans wi.g)
      clear u0 u1 u2' u3' x0 x1 x2 x3
      by_cases hc:cl=0
      ·subst hc
       have hb2:((0:Int) != 0)=false:=rfl
       have HNX:RowKit.Hid (GG=G2):=by
        show GG=G2
        rw[HST2.out]
        simp[hst1]
       go_wp2
       go_roundg (l.length-(kk+1))
       case measure=>omega
       case rel=>exact⟨kk+1,by omega,by omega,by go_num,(show Aside _ from HG2.out),(show Aside _ from HNX.out.trans HG2E.out)⟩
      ·have hb2:(cl != 0)=true:=by simpa using hc
       have HNO:RowKit.Hid (GG=false):=by
        show GG=false
        rw[HST2.out,beq_eq_false_iff_ne.2 hc]
        simp
       have HNC:=Lib.hid hc
       clear hc
       go_wp2
       go_ret2
       exact⟨_,_,rfl,by rw[HNO.out];simp[HNC.out],HG2.out⟩
theorem pRight (l:List Cm) (lv:Value) (w:World) (hv:SlC w lv l):Calls Tryz.prog 120 #[lv] w fun e w'=>e=.returned (.bool (rightCB l))∧Grew w w':=by
 have k:=pCheck l lv w hv
 generalize rightCB l=G at k ⊢
 have K:=Lib.hid k
 clear k hv
 go_enter Tryz.func120,Tryz.ntmps120
 go_wp2_with fail
 refine K.out.mono ?_
 rintro e w1 ⟨i,n,rfl,hn,g⟩
 have HN:=Lib.hid hn
 clear hn
 dsimp only
 cases hb:(n == 0)
 ·have HGF:RowKit.Hid (G=false):=by
   show G=false
   have:¬ n=0:=by simpa using hb
   cases G
   ·rfl
   ·exact absurd (HN.out.2 rfl) this
  go_wp2
  go_ret
  exact⟨ret_bool HGF.out.symm,g⟩
 ·have HGF:RowKit.Hid (G=true):=HN.out.1 (by simpa using hb)
  go_wp2
  go_ret
  exact⟨ret_bool HGF.out.symm,g⟩
end Go.Proofs.YtdochkemaiokfaaGreat
/- slices.Insert of one piece of evidence, on a row of the call's own, with a word on all other blocks. No condition but the sizes that a slice can have. -/
namespace Go.Proofs.YtdochkemaiokfaaGreat
open Go.RowKit
theorem sizeC (w:World):(Go.sizeOf 69).run Tryz.prog w=.ok 4 w:=by kernel_rfl
theorem infoSzC:(Tryz.prog.info? 69).map (·.size)=some 4:=by kernel_rfl
theorem overlapsC (w:World) (g vb o:Nat) (hne:vb≠g) (cur xc:List Value) (hg:w.heap[g]? = some (.cells cur.toArray 69 (0,0))) (hv:w.heap[vb]? = some (.cells xc.toArray 69 (0,0))) (hpos:0<cur.length) (lb cb:Nat) :
  (callFunc 179 #[.slice (some ⟨vb,0,none⟩) 1 1,.slice (some ⟨g,o,none⟩) lb cb]).run Tryz.prog w=.ok (.value (.bool false)) w:=by
 rw[run_callFunc_extern Tryz.func179 (by kernel_rfl) (by kernel_rfl) (by kernel_rfl) (e:=Extern.SlicesOverlaps.overlaps #[50,50] #[4]) (by kernel_rfl),
  Lib.run_overlaps_apart w 50 4 69 Tryz.underlying50 4 sizeC ⟨vb,0,none⟩ ⟨g,o,none⟩ 1 1 lb cb hne 69 69 xc.toArray.size cur.toArray.size (by simp[World.shape?,hv]) (by simp[World.shape?,hg]) (by simp only [List.size_toArray];omega) (by simp[World.frozen?,hv]) (by simp[World.frozen?,hv])]
 rfl
set_option maxHeartbeats 4000000 in
set_option maxRecDepth 100000 in
theorem insShiftC (w0:World) (g cap n i vb:Nat) (cur p q r xc:List Value) (w:World) (hi:i<n) (hroom:n+1≤cap) (hc:cap≤maxLen) (hne:vb≠g) (hG:Grew w0 w) (hbg:w0.heap.size≤g)
  (hg:w.heap[g]? = some (.cells cur.toArray 69 (0,0))) (hcur:cur=p++q++r) (hp:p.length=i*4) (hq:q.length=(n-i)*4) (hr:4≤r.length) (hcl:cur.length=cap*4)
  (hv:w.heap[vb]? = some (.cells xc.toArray 69 (0,0))) (hx:xc.length=4) (h1c:∀ v∈q,v.oneCell'=true) (h1x:∀ v∈xc,v.oneCell'=true) :
  Calls Tryz.prog 125 #[.slice (some ⟨g,0,none⟩) n cap,.int .i64 i,.slice (some ⟨vb,0,none⟩) 1 1] w (RetRow3 69 4 (p++xc++q) (n+1) w0.heap.size (.slice (some ⟨g,0,none⟩) n cap) w):=by
 have hlen:cur.length=i*4+(n-i)*4+r.length:=by rw[hcur];simp only [List.length_append,hp,hq]
 unfold maxLen at hc
 have hov:=fun lb cb=>overlapsC w g vb ((i+1)*4) hne cur xc hg hv (by omega) lb cb
 have hz1:¬ ((i:Int)=(n:Int)):=by omega
 have hb2:¬ (cap=i+1):=by omega
 have hb3:(i:Int)≤(n:Int)+1:=by omega
 have hb4:¬ (cap=i):=by omega
 have hin:i≤n:=by omega
 have HG0:=Lib.hid hg
 have HV:=Lib.hid hv
 have HC:=Lib.hid hcur
 have HPQ:=Lib.hid (show p.length=i*4∧q.length=(n-i)*4∧4≤r.length∧xc.length=4 from⟨hp,hq,hr,hx⟩)
 have H1:=Lib.hid (show(∀ v∈q,v.oneCell'=true)∧(∀ v∈xc,v.oneCell'=true) from⟨h1c,h1x⟩)
 have HCL:=Lib.hid hcl
 clear hg hv hcur hp hq hr hx h1c h1x hlen hcl
 go_enter Tryz.func125,Tryz.ntmps125
 go_wp2_with (simp only [hov])
 have hw1:IntKind.i64.wrap ((i:Int)+1)=(i:Int)+1:=IntWalk.i64_in _ (by omega)
 have hb1:(0:Int)≤(i:Int)+1:=by omega
 have htn:((i:Int)+1).toNat=i+1:=by omega
 have hb5:(i:Int)+1≤(n:Int)+1:=by omega
 have h0i:(0:Int)≤(i:Int):=by omega
 refine region_still_tail 8 (by kernel_rfl) (by kernel_rfl) ?_
 simp only [List.take_succ_cons,List.take_zero,List.drop_succ_cons,List.drop_zero]
 iterate 8 still_step
 clear hw1 hb1 htn hb5
 refine wpStill_nil ?_
 refine copyK rfl _ _ 50 50 rfl 69 Tryz.underlying50 4 infoSzC g ((i+1)*4) (n-i) (cap-(i+1)) ⟨g,i*4,none⟩ (n+1-i) (cap-i) (by rfl) (by rfl) cur 69 (by have:=HG0.out;exact this) q ?_ ?_ ?_ ?_ w0 (by exact hG.drew) hbg ?_
 ·rw[HPQ.out.2.1]
  congr 1
  simp only [Nat.min_def]
  split<;>omega
 ·intro j v hj
  rw[add_lit]
  refine cells_at HG0.out (i*4+j) v ?_
  rw[HC.out,List.append_assoc,← HPQ.out.1,List.getElem?_append_right (by omega),Nat.add_sub_cancel_left,List.getElem?_append_left (List.getElem?_eq_some_iff.1 hj).1]
  exact hj
 ·have h1:=HPQ.out
  rw[HC.out]
  simp only [List.length_append]
  omega
 ·exact fun v hv=>H1.out.1 v hv
 intro w1 HG1 HW1 HK1
 have hvb1:w1.heap[vb]? = some (.cells xc.toArray 69 (0,0)):=(HK1.out vb hne).trans HV.out
 obtain⟨w2,hrun,hg2,hG2,hk2⟩:=copy_run (P:=Tryz.prog) w1 50 50 69 Tryz.underlying50 4 infoSzC g (i*4) (n+1-i) (cap-i) ⟨vb,0,none⟩ 1 1 _ 69 HG1.out xc (by
   rw[HPQ.out.2.2.2]
   have:Nat.min 1 (n+1-i)=1:=by simp only [Nat.min_def];split<;>omega
   rw[this]) (fun j v hj=>by rw[add_lit,Nat.zero_add];exact cells_at hvb1 j v hj) (by
   have h1:=HPQ.out
   rw[length_splice _ _ _ (by rw[HC.out];simp only [List.length_append];omega),HC.out]
   simp only [List.length_append]
   omega) H1.out.2 w0 HW1.out hbg
 have HFin:RowKit.Hid (w2.ownsRow w0.heap.size 69 4 (.slice (some ⟨g,0,none⟩) (n+1) cap) (n+1) (p++xc++q)):=by
  have h1:=HPQ.out
  have hs:=splice_shift p q r xc (by omega)
  rw[h1.1,h1.2.2.2,← HC.out,show i*4+4=(i+1)*4 by omega] at hs
  refine own_splice hbg hg2 (by omega) (by unfold maxLen;omega) ?_ (by simp only [List.length_append];omega) ⟨_,hs⟩
  rw[length_splice _ _ _ (by rw[length_splice _ _ _ (by rw[HC.out];simp only [List.length_append];omega),HC.out];simp only [List.length_append];omega),length_splice _ _ _ (by rw[HC.out];simp only [List.length_append];omega)]
  exact HCL.out
 have HGR:=Lib.hid (grown_of hG hG2 hg2 (fun b hb=>(hk2 b hb).trans (HK1.out b hb)))
 clear hg2 hG2 hvb1 hk2
 go_wp2
 go_ret
 exact⟨_,rfl,HFin.out,HGR.out,.inl rfl⟩
theorem zerosC (w:World) (g cap n i:Nat) (cur p q:List Value) (hi:i<n) (hnc:n≤cap) (hroom:cap<n+1) (hn:n≤1000000) (hg:w.heap[g]? = some (.cells cur.toArray 69 (0,0))) (hcur:∃ r,cur=p++q++r) (hp:p.length=i*4) :
  ∃(G:Nat) (Z:List Value) (w1:World),(∀ ty,(Builtin.append_ #[50,3] ty #[.slice (some ⟨g,0,none⟩) i cap,.int .i64 ((n:Int)+1-(i:Int))]).run Tryz.prog w=.ok (.slice (some ⟨w.heap.size,0,none⟩) (n+1) G) w1) ∧
   n+1≤G∧G≤maxLen∧w1.heap[w.heap.size]? = some (.cells (p++Z).toArray 69 (0,0))∧(n+1-i)*4≤Z.length∧i*4+Z.length=G*4∧Grew w w1:=by
 obtain⟨i0,hi0,hz0,hz1,hz2⟩:=info_parts cinfoC
 obtain⟨r,hcur⟩:=hcur
 have hkk:(n:Int)+1-(i:Int)=((n+1-i:Nat):Int):=by omega
 have hik:i+(n+1-i)=n+1:=by omega
 have hold:(Builtin.firstCells i0.size i (.slice (some ⟨g,0,none⟩) i cap)).run Tryz.prog w.drew=.ok p.toArray w.drew:=by
  rw[hz1]
  refine run_firstCells_some w.drew 4 i ⟨g,0,none⟩ i cap p hp (fun j v hj=>?_)
  rw[add_lit,Nat.zero_add]
  refine cells_at (w:=w.drew) hg j v ?_
  rw[hcur,List.append_assoc,List.getElem?_append_left (List.getElem?_eq_some_iff.1 hj).1]
  exact hj
 have h:=fun ty=>Lib.run_append_grow_zeros w 50 3 ty 69 i0 _ .i64 .i64 Tryz.underlying50 Tryz.underlying3 hi0 hz0 (some ⟨g,0,none⟩) i cap p hold (n+1-i) (by omega) (by omega) (by omega) (by omega) (by rw[hz2];omega) (by rw[hz2,hik];exact growslice_fits hroom (by omega))
 simp only [hik] at h
 rw[hkk]
 obtain⟨ZC,hZC⟩:∃ ZC,ZC=(Value.agg #[.int .i64 0,.int .i64 0,.int .i64 0,.int .i64 0]).cells:=⟨_,rfl⟩
 have hZs:ZC.size=4:=by rw[hZC];rfl
 rw[← hZC] at h
 refine⟨_,(Builtin.zeroCells ZC (n+1-i)++Builtin.zeroCells ZC (grownCap w (n+1) cap 69-(n+1))).toList,_,h,grownCap_ge w _ _ _,grownCap_le_maxLen w (n+1) cap _ (by unfold maxLen;omega),?_,?_,?_,(Grew.refl w).drew.alloc _⟩
 ·have:=heap_alloc_last w.drew (.cells (p.toArray++Builtin.zeroCells ZC (n+1-i)++Builtin.zeroCells ZC (grownCap w (n+1) cap 69-(n+1))) 69 (0,0))
  rw[show(p++(Builtin.zeroCells ZC (n+1-i)++Builtin.zeroCells ZC (grownCap w (n+1) cap 69-(n+1))).toList).toArray=p.toArray++Builtin.zeroCells ZC (n+1-i)++Builtin.zeroCells ZC (grownCap w (n+1) cap 69-(n+1)) by simp[Array.append_assoc]]
  exact this
 ·simp[Builtin.zeroCells,hZs]
 ·have h9:=grownCap_ge w (n+1) cap 69
  simp only [Builtin.zeroCells,hZs,Array.toList_append,List.length_append,Array.length_toList,Array.size_map,Array.size_range]
  rw[← Nat.add_assoc,← Nat.add_mul,← Nat.add_mul]
  generalize grownCap w (n+1) cap 69=X at h9 ⊢
  rw[show i+(n+1-i)+(X-(n+1))=X by omega]
set_option maxHeartbeats 4000000 in
set_option maxRecDepth 100000 in
theorem insGrowC (w0:World) (g cap n i vb:Nat) (cur p q r xc:List Value) (w:World) (hi:i<n) (hnc:n≤cap) (hroom:cap<n+1) (hn:n≤1000000) (hG:Grew w0 w)
  (hg:w.heap[g]? = some (.cells cur.toArray 69 (0,0))) (hcur:cur=p++q++r) (hp:p.length=i*4) (hq:q.length=(n-i)*4)
  (hv:w.heap[vb]? = some (.cells xc.toArray 69 (0,0))) (hx:xc.length=4) (h1c:∀ v∈q,v.oneCell'=true) (h1x:∀ v∈xc,v.oneCell'=true) :
  Calls Tryz.prog 125 #[.slice (some ⟨g,0,none⟩) n cap,.int .i64 i,.slice (some ⟨vb,0,none⟩) 1 1] w (RetRow3 69 4 (p++xc++q) (n+1) w0.heap.size (.slice (some ⟨g,0,none⟩) n cap) w):=by
 obtain⟨G,Z,w1,hrun1,hG1,hG2,hh1,hZ,hZl,hgr1⟩:=zerosC w g cap n i cur p q hi hnc hroom hn hg ⟨r,hcur⟩ hp
 unfold maxLen at hG2
 have hglt:g<w.heap.size:=(Array.getElem?_eq_some_iff.1 hg).1
 have hvlt:vb<w.heap.size:=(Array.getElem?_eq_some_iff.1 hv).1
 have hv1:w1.heap[vb]? = some (.cells xc.toArray 69 (0,0)):=(hgr1.block vb hvlt).trans hv
 have hg1:w1.heap[g]? = some (.cells cur.toArray 69 (0,0)):=(hgr1.block g hglt).trans hg
 have hmin:Nat.min 1 (n+1-i)=1:=by simp only [Nat.min_def];split<;>omega
 obtain⟨w2,hrun2,hh2,hgr2,hk2⟩:=copy_run (P:=Tryz.prog) w1 50 50 69 Tryz.underlying50 4 infoSzC w.heap.size (i*4) (n+1-i) (G-i) ⟨vb,0,none⟩ 1 1 _ 69 hh1 xc (by rw[hx,hmin]) (fun j v hj=>by rw[add_lit,Nat.zero_add];exact cells_at hv1 j v hj) (by rw[List.length_append,hp,hx];omega) h1x w hgr1 (Nat.le_refl _)
 have hg2:w2.heap[g]? = some (.cells cur.toArray 69 (0,0)):=(hk2 g (by omega)).trans hg1
 have hz1:¬ ((i:Int)=(n:Int)):=by omega
 have hz3:(cap:Int)<(n:Int)+1:=by omega
 have hb2:¬ (G=i+1):=by omega
 have hb3:(i:Int)≤(n:Int)+1:=by omega
 have hb4:¬ (cap=i):=by omega
 have hb5:¬ (G=i):=by omega
 have hin:i≤n:=by omega
 have hin2:(i:Int)≤(n:Int):=by omega
 have HR2:=Lib.hid (show w2.heap[w.heap.size]? = _∧w2.heap[g]? = _∧Grew w w2 from⟨hh2,hg2,hgr2⟩)
 have HC:=Lib.hid hcur
 have HPQ:=Lib.hid (show p.length=i*4∧q.length=(n-i)*4∧xc.length=4∧(n+1-i)*4≤Z.length∧i*4+Z.length=G*4 from⟨hp,hq,hx,hZ,hZl⟩)
 have H1:=Lib.hid (show(∀ v∈q,v.oneCell'=true)∧(∀ v∈xc,v.oneCell'=true) from⟨h1c,h1x⟩)
 clear hg hv hcur hp hq hx h1c h1x hh1 hZ hZl hgr1 hv1 hg1 hmin hh2 hgr2 hk2 hg2 hglt hvlt
 obtain⟨H,hH⟩:∃ H,H=w.heap.size:=⟨_,rfl⟩
 rw[← hH] at HR2 hrun1 hrun2
 have HH:=Lib.hid hH
 clear hH
 go_enter Tryz.func125,Tryz.ntmps125
 go_wp2_with (at_builtin;refine Lib.wpList_append_run _ rfl _ _ _ _ rfl _ _ rfl rfl _ _ (hrun1 _) ?_)
 have hw1:IntKind.i64.wrap ((i:Int)+1)=(i:Int)+1:=IntWalk.i64_in _ (by omega)
 have hb6:(0:Int)≤(i:Int)+1:=by omega
 have htn:((i:Int)+1).toNat=i+1:=by omega
 have hb7:(i:Int)+1≤(n:Int)+1:=by omega
 have h0i:(0:Int)≤(i:Int):=by omega
 refine region_still_tail 8 (by kernel_rfl) (by kernel_rfl) ?_
 simp only [List.take_succ_cons,List.take_zero,List.drop_succ_cons,List.drop_zero]
 iterate 8 still_step
 clear hw1 hb6 htn hb7
 refine wpStill_nil ?_
 refine copyK rfl _ _ 50 50 rfl 69 Tryz.underlying50 4 infoSzC H ((i+1)*4) (n-i) (G-(i+1)) ⟨g,i*4,none⟩ (n-i) (cap-i) (by rfl) (by rfl) _ 69 (by have:=HR2.out.1;exact this) q ?_ ?_ ?_ ?_ w (by exact HR2.out.2.2.drew) (by rw[HH.out];exact Nat.le_refl _) ?_
 ·rw[HPQ.out.2.1]
  congr 1
  simp only [Nat.min_def]
  split<;>omega
 ·intro j v hj
  rw[add_lit]
  refine cells_at (w:=w2.drew) HR2.out.2.1 (i*4+j) v ?_
  rw[HC.out,List.append_assoc,← HPQ.out.1,List.getElem?_append_right (by omega),Nat.add_sub_cancel_left,List.getElem?_append_left (List.getElem?_eq_some_iff.1 hj).1]
  exact hj
 ·have h1:=HPQ.out
  rw[length_splice _ _ _ (by rw[List.length_append];omega),List.length_append]
  omega
 ·exact fun v hv=>H1.out.1 v hv
 intro w3 HG3 HW3 HK3
 have HFin:RowKit.Hid (w3.ownsRow w0.heap.size 69 4 (.slice (some ⟨H,0,none⟩) (n+1) G) (n+1) (p++xc++q)):=by
  have h1:=HPQ.out
  have hs:=splice_new p q Z xc
  rw[h1.1,h1.2.2.1,show i*4+4=(i+1)*4 by omega] at hs
  refine own_splice (by rw[HH.out];exact hG.size) HG3.out (by omega) (by unfold maxLen;omega) ?_ (by simp only [List.length_append];omega) ⟨_,hs⟩
  rw[length_splice _ _ _ (by rw[length_splice _ _ _ (by rw[List.length_append];omega),List.length_append];omega),length_splice _ _ _ (by rw[List.length_append];omega),List.length_append,h1.1]
  exact h1.2.2.2.2
 go_wp2
 go_ret
 exact⟨_,rfl,HFin.out,grown_grew HW3.out _,.inr fun b hb=>by simp[Value.ownBlock] at hb;rw[← hb,HH.out];exact Nat.le_refl _⟩
set_option maxHeartbeats 4000000 in
set_option maxRecDepth 100000 in
theorem insEndC (w0:World) (n vb:Nat) (xs xc:List Value) (v:Value) (w:World) (hown:w.ownsRow w0.heap.size 69 4 v n xs) (hG:Grew w0 w) (hl:n≤1000000)
  (hv:w.heap[vb]? = some (.cells xc.toArray 69 (0,0))) (hx:xc.length=4) (h1x:∀ v∈xc,v.oneCell'=true) :
  Calls Tryz.prog 125 #[v,.int .i64 n,.slice (some ⟨vb,0,none⟩) 1 1] w (RetRow3 69 4 (xs++xc) (n+1) w0.heap.size v w):=by
 obtain⟨i0,hi,hz0,hz1,hz2⟩:=info_parts cinfoC
 have HO:=Lib.hid hown
 have HV:=Lib.hid (fun j u hj=>(by rw[Nat.zero_add];exact cells_at hv j u hj:w.cell? ⟨vb,0+j,none⟩=some u))
 have HX:=Lib.hid (show xc.length=1*4 from hx)
 have H1:=Lib.hid h1x
 have hf:∃(A:Option Addr) (c:Nat),v=.slice A n c∧n≤c∧c≤maxLen∧(A=none→n=0∧c=0):=by
  rcases hown.2 with ⟨rfl,rfl⟩|⟨g,cap,cur,rfl,_,_,h1,h2,_⟩
  ·exact⟨_,_,rfl,Nat.le_refl _,Nat.zero_le _,fun _=>⟨rfl,rfl⟩⟩
  ·exact⟨_,_,rfl,h1,h2,fun h=>by cases h⟩
 obtain⟨A,c,rfl,hnc,hc,hA⟩:=hf
 unfold maxLen at hc
 clear hown hv hx h1x
 cases A with
 | none =>
  obtain⟨rfl,rfl⟩:=hA rfl
  clear hA
  go_enter Tryz.func125,Tryz.ntmps125
  go_wp2_with (at_builtin;refine wpList_append_lies _ rfl _ _ 50 rfl w0.heap.size 69 i0 (.agg #[.int .i64 0,.int .i64 0,.int .i64 0,.int .i64 0]) 4 32 Tryz.underlying50 hi hz0 hz1 hz2 rfl (by omega) _ _ _ (by rfl) HO.out ⟨vb,0,none⟩ 1 1 xc (by rfl) HX.out (fun j u hj=>by rw[add_lit];exact HV.out j u hj) H1.out (by omega) (by unfold maxLen;omega) (by omega) hG.size w.heap.size rfl ?_;intro g3 cap3 w3 hown3 hgr3 hat3 hlt3)
  go_ret
  exact⟨_,rfl,hown3,hgr3,hat3.imp (fun h=>h.symm) (fun h b hb=>by simp[Value.ownBlock] at hb;omega)⟩
 | some a =>
  clear hA
  by_cases hcn:c=n
  ·subst hcn
   go_enter Tryz.func125,Tryz.ntmps125
   go_wp2_with (at_builtin;refine wpList_append_lies _ rfl _ _ 50 rfl w0.heap.size 69 i0 (.agg #[.int .i64 0,.int .i64 0,.int .i64 0,.int .i64 0]) 4 32 Tryz.underlying50 hi hz0 hz1 hz2 rfl (by omega) _ _ _ (by rfl) HO.out ⟨vb,0,none⟩ 1 1 xc (by rfl) HX.out (fun j u hj=>by rw[add_lit];exact HV.out j u hj) H1.out (by omega) (by unfold maxLen;omega) (by omega) hG.size w.heap.size rfl ?_;intro g3 cap3 w3 hown3 hgr3 hat3 hlt3)
   go_ret
   exact⟨_,rfl,hown3,hgr3,hat3.imp (fun h=>h.symm) (fun h b hb=>by simp[Value.ownBlock] at hb;omega)⟩
  ·go_enter Tryz.func125,Tryz.ntmps125
   go_wp2_with (at_builtin;refine wpList_append_lies _ rfl _ _ 50 rfl w0.heap.size 69 i0 (.agg #[.int .i64 0,.int .i64 0,.int .i64 0,.int .i64 0]) 4 32 Tryz.underlying50 hi hz0 hz1 hz2 rfl (by omega) _ _ _ (by rfl) HO.out ⟨vb,0,none⟩ 1 1 xc (by rfl) HX.out (fun j u hj=>by rw[add_lit];exact HV.out j u hj) H1.out (by omega) (by unfold maxLen;omega) (by omega) hG.size w.heap.size rfl ?_;intro g3 cap3 w3 hown3 hgr3 hat3 hlt3)
   go_ret
   exact⟨_,rfl,hown3,hgr3,hat3.imp (fun h=>h.symm) (fun h b hb=>by simp[Value.ownBlock] at hb;omega)⟩
theorem insertC (w0:World) (l:List Cm) (x:Cm) (i vb:Nat) (v:Value) (w:World) (hown:w.ownsRow w0.heap.size 69 4 v l.length (l.flatMap Cm.cells)) (hG:Grew w0 w) (hi:i≤l.length) (hl:l.length≤1000000)
  (hv:w.heap[vb]? = some (.cells x.cells.toArray 69 (0,0))) (hne:some vb≠v.ownBlock) :
  Calls Tryz.prog 125 #[v,.int .i64 i,.slice (some ⟨vb,0,none⟩) 1 1] w (RetRow3 69 4 ((l.take i++[x]++l.drop i).flatMap Cm.cells) (l.length+1) w0.heap.size v w):=by
 have hx1:∀ v∈x.cells,v.oneCell'=true:=fun v hv=>one_cellsC [x] v (by simpa using hv)
 have hxl:x.cells.length=4:=rfl
 obtain⟨ht,hd⟩:=flat_take (f:=Cm.cells) (k:=4) (fun _=>rfl) l i
 have hfl:=flatMap_len Cm.cells 4 (fun _=>rfl) l
 by_cases e:i=l.length
 ·subst e
  have:=insEndC w0 l.length vb (l.flatMap Cm.cells) x.cells v w hown hG hl hv hxl hx1
  simpa [List.flatMap_append] using this
 ·rcases hown.2 with ⟨_,h0⟩|⟨g,cap,cur,rfl,hbg,hh,h1,h2,h3,h4⟩
  ·omega
  have hres:(l.take i++[x]++l.drop i).flatMap Cm.cells=(l.flatMap Cm.cells).take (i*4)++x.cells++(l.flatMap Cm.cells).drop (i*4):=by
   rw[ht,hd];simp[List.flatMap_append]
  have hcur:cur.toList=(l.flatMap Cm.cells).take (i*4)++(l.flatMap Cm.cells).drop (i*4)++cur.toList.drop (l.length*4):=by
   rw[List.take_append_drop,← h4,List.take_append_drop]
  have hh':w.heap[g]? = some (.cells cur.toList.toArray 69 (0,0)):=by simpa using hh
  have hp:((l.flatMap Cm.cells).take (i*4)).length=i*4:=by rw[List.length_take,hfl];omega
  have hq:((l.flatMap Cm.cells).drop (i*4)).length=(l.length-i)*4:=by rw[List.length_drop,hfl];omega
  have hne':vb≠g:=fun h=>hne (by rw[h];rfl)
  have hq1:∀ v∈(l.flatMap Cm.cells).drop (i*4),v.oneCell'=true:=fun v hv=>one_cellsC l v (List.mem_of_mem_drop hv)
  rw[hres]
  by_cases hroom:l.length+1≤cap
  ·exact insShiftC w0 g cap l.length i vb _ _ _ _ _ w (by omega) hroom h2 hne' hG hbg hh' hcur hp hq (by rw[List.length_drop,Array.length_toList,h3];omega) (by simpa using h3) hv hxl hq1 hx1
  ·exact insGrowC w0 g cap l.length i vb _ _ _ _ _ w (by omega) h1 (by omega) hl hG hh' hcur hp hq hv hxl hq1 hx1
end Go.Proofs.YtdochkemaiokfaaGreat