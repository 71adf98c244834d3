/- Lemmas on what the functions of the program and of the library compute: B2, B3, T8, T9, Ins, InsR, App3, InsI, InsB. The conditions stand at each. -/
import Derived.Test.YtdochkemaiokfaaGreatQ3
import Derived.Test.YtdochkemaiokfaaGreatQ2
import Derived.Test.YtdochkemaiokfaaGreatT7Q
import Derived.Lib.Overlaps
import Derived.Lib.AppendZerosOnto
import Derived.Laws.CopyOwn
import Derived.Deep.RegionLaw
import Derived.Deep.AppendLies
/- relation.Check, walked. The conditions: the library's own variables hold what they must; each authority has few names and successors. -/
namespace Go.Proofs.YtdochkemaiokfaaGreat
open Go.RowKit
theorem keep_cell {W X:World} (g:Grew W X) {p:Addr} {v:Value} (h:W.cell? p=some v):X.cell? p=some v:=(g.cell (World.block_lt_of_cell? W _ h)).trans h
end Go.Proofs.YtdochkemaiokfaaGreat
/- relation: asks, ranged, find, walked. The conditions: the library's own variables hold what they must; the lists are short. -/
namespace Go.Proofs.YtdochkemaiokfaaGreat
open Go.RowKit
theorem ret_ib {i:Int} {a b:Bool} (h:a=b):Ending.returned (.tuple #[.int .i64 i,.bool a])=.returned (.tuple #[.int .i64 i,.bool b]):=by rw[h]
def passes {α:Type} (p:α→Bool) (l:List α):Nat:=(l.takeWhile p).length
theorem passes_eq {α:Type} (p:α→Bool) (l:List α) (i:Nat) (hi:i≤l.length) (h1:∀ t (h:t<l.length),t<i→p l[t]=true) (h2:∀ t (h:t<l.length),i≤t→p l[t]=false):passes p l=i:=by
 unfold passes
 induction l generalizing i with
 | nil=>simp at hi;simp[hi]
 | cons x r ih =>
  cases i with
  | zero =>
   have:=h2 0 (by simp) (by omega)
   simp only [List.getElem_cons_zero] at this
   simp[this]
  | succ i =>
   have:=h1 0 (by simp) (by omega)
   simp only [List.getElem_cons_zero] at this
   rw[List.takeWhile_cons,if_pos this,List.length_cons,ih i (by simpa using hi) (fun t h ht=>h1 (t+1) (Nat.succ_lt_succ h) (by omega)) (fun t h ht=>h2 (t+1) (Nat.succ_lt_succ h) (by omega))]
def hitB {α:Type} (q:α→Bool) (l:List α) (i:Nat):Bool:=match l[i]? with
 | none=>false
 | some y=>q y
end Go.Proofs.YtdochkemaiokfaaGreat
/- tree.at, walked: the binary search of a unit. The condition: the units ascend, and are not too many. -/
namespace Go.Proofs.YtdochkemaiokfaaGreat
open Go.RowKit
theorem tAt1 (y:BrC) (id:Int) (w:World):Calls Tryz.prog 249 #[y.agg,.int .i64 id] w fun e w'=>e=.returned (.int .i64 (Lib.compareInt y.id id))∧Grew w w':=by
 have h1:=Tryz.cmp_Compare_int y.id id
 unfold BrC.agg
 generalize Lib.compareInt y.id id=r at h1
 have H1:=Lib.hid h1
 clear h1
 go_enter Tryz.func249,Tryz.ntmps249
 go_wp2_with fail
 refine(H1.out _).mono ?_
 rintro e w1 ⟨rfl,rfl⟩
 dsimp only
 go_wp2
 go_ret
 exact⟨rfl,(Grew.refl w).alloc _⟩
def cmpId (id:Int) (b:Br):Int:=Lib.compareInt b.id id
set_option maxHeartbeats 2000000 in
theorem searchB (l:List Br) (id:Int) (v:Value) (w:World) (hv:SlBr w v l) (hlen:l.length≤1000000)
  (hm:∀ i j (hi:i<l.length) (hj:j<l.length),i≤j→cmpId id l[j]<0→cmpId id l[i]<0) :
  Calls Tryz.prog 181 #[v,.int .i64 id,.func (.func 249) #[] #[]] w fun e w' =>
   e=.returned (.tuple #[.int .i64 (passes (fun y=>decide (cmpId id y<0)) l),.bool (hitB (fun y=>decide (cmpId id y=0)) l (passes (fun y=>decide (cmpId id y<0)) l))])∧Grew w w':=by
 obtain⟨A,c,rfl,hlc,hcap,hr⟩:=hv.open_
 have HR:=Lib.hid hr
 have HM:=Lib.hid hm
 have HP:=Lib.hid (passes_eq (fun y=>decide (cmpId id y<0)) l)
 clear hv hr hm hcap hlc
 generalize passes (fun y=>decide (cmpId id y<0)) l=P0 at HP ⊢
 generalize hh0:hitB (fun y=>decide (cmpId id y=0)) l P0=hb0
 have HH0:=Lib.hid hh0
 clear hh0
 go_enter Tryz.func181,Tryz.ntmps181
 go_wp2
 go_loopg [9,10] l.length (fun gg s9 s10 wr=>∃ i j:Nat,i≤j∧j≤l.length∧j-i≤gg∧s9=.int .i64 i∧s10=.int .i64 j∧Aside (Grew w wr)∧Aside (∀ t (h:t<l.length),t<i→cmpId id l[t]<0)∧Aside (∀ t (h:t<l.length),j≤t→¬ cmpId id l[t]<0))
 case atStart=>exact⟨0,l.length,by omega,by omega,by omega,rfl,rfl,(show Aside _ from Grew.refl _),(show Aside _ from fun t h ht=>by omega),(show Aside _ from fun t h ht=>by omega)⟩
 case round =>
  obtain⟨i,j,hij,hj,hgk,rfl,rfl,BW,M1,M2⟩:=hrel
  by_cases hlt:i<j
  ·have hltz:(i:Int)<(j:Int):=by omega
   have hmid:((i:Int)+(j:Int)) / 2=(((i+j) / 2:Nat):Int):=by omega
   have hk1:i≤(i+j) / 2:=by omega
   have hk2:(i+j) / 2<j:=by omega
   have hkl:(i+j) / 2<l.length:=by omega
   have hkz:(i:Int)+(j:Int)<2*(l.length:Int):=by omega
   have hkz2:((i:Int)+(j:Int)) / 2<(l.length:Int):=by omega
   have h0z:(0:Int)≤((i:Int)+(j:Int)) / 2:=by omega
   have htn:(((i:Int)+(j:Int)) / 2).toNat=(i+j) / 2:=by omega
   obtain⟨b,off,rfl,hb,hcell⟩:=HR.out (by omega)
   obtain⟨kv,hkv,hcl⟩:=hcell ((i+j) / 2) hkl
   obtain⟨c0,c1,c2,c3,c4,c5⟩:=hcl wr BW.out
   obtain⟨Az,cz,rfl,-,-,-⟩:=hkv.open_
   have HN1:RowKit.Hid (cmpId id l[(i+j) / 2]<0→∀ t (h:t<l.length),t<(i+j) / 2+1→cmpId id l[t]<0):=fun h t ht htk=>HM.out t _ ht hkl (by omega) h
   have HN2:RowKit.Hid (¬ cmpId id l[(i+j) / 2]<0→∀ t (h:t<l.length),(i+j) / 2≤t→¬ cmpId id l[t]<0):=fun h t ht htk h3=>h (HM.out _ t hkl ht htk h3)
   have HMID:=Lib.hid hmid
   clear hcell hcl hkv hmid
   unfold cmpId at HN1 HN2
   generalize l[(i+j) / 2]=y at c0 c1 c2 c3 c4 c5 HN1 HN2
   obtain⟨yi,yp,yl,yt,ym,yk⟩:=y
   dsimp only at c0 c1 c2 c3 c4 c5 HN1 HN2
   have kC:=fun W=>tAt1 ⟨yi,yp,yl,yt,ym,.slice Az yk.length cz⟩ id W
   dsimp only [BrC.agg] at kC
   generalize Lib.compareInt yi id=r at kC HN1 HN2
   have KC:=Lib.hid kC
   clear kC
   by_cases hneg:r<0
   ·have Hn:=Lib.hid (HN1.out hneg)
    go_wp2_with fail
    refine(KC.out _).mono ?_
    rintro e w1 ⟨rfl,g1⟩
    have HG1:=Lib.hid g1
    clear g1
    dsimp only
    go_wp2
    rw[HMID.out]
    go_roundg (j-((i+j) / 2+1))
    case measure=>omega
    case rel=>exact⟨(i+j) / 2+1,j,by omega,by omega,by omega,by go_num,rfl,(show Aside _ from BW.out.trans HG1.out),(show Aside _ from Hn.out),M2⟩
   ·have hneg':decide (r<0)=false:=by simpa using hneg
    have Hn:=Lib.hid (HN2.out hneg)
    go_wp2_with fail
    refine(KC.out _).mono ?_
    rintro e w1 ⟨rfl,g1⟩
    have HG1:=Lib.hid g1
    clear g1
    dsimp only
    go_wp2
    rw[HMID.out]
    go_roundg ((i+j) / 2-i)
    case measure=>omega
    case rel=>exact⟨i,(i+j) / 2,by omega,by omega,by omega,rfl,rfl,(show Aside _ from BW.out.trans HG1.out),M1,(show Aside _ from Hn.out)⟩
  ·have hltz:¬ (i:Int)<(j:Int):=by omega
   obtain rfl:i=j:=by omega
   have hP:=HP.out i hj (fun t h ht=>by simpa using M1.out t h ht) (fun t h ht=>by simpa using M2.out t h ht)
   subst hP
   by_cases hil:P0<l.length
   ·have hilz:(P0:Int)<(l.length:Int):=by omega
    have h0z:(0:Int)≤(P0:Int):=by omega
    obtain⟨b,off,rfl,hb,hcell⟩:=HR.out (by omega)
    obtain⟨kv,hkv,hcl⟩:=hcell P0 hil
    obtain⟨c0,c1,c2,c3,c4,c5⟩:=hcl wr BW.out
    obtain⟨Az,cz,rfl,-,-,-⟩:=hkv.open_
    have hh:(cmpId id l[P0] == 0)=hb0:=by
     rw[← HH0.out]
     simp only [hitB,List.getElem?_eq_getElem hil]
     rfl
    unfold cmpId at hh
    clear hcell hcl hkv
    generalize l[P0]=y at c0 c1 c2 c3 c4 c5 hh
    obtain⟨yi,yp,yl,yt,ym,yk⟩:=y
    dsimp only at c0 c1 c2 c3 c4 c5 hh
    have kC:=fun W=>tAt1 ⟨yi,yp,yl,yt,ym,.slice Az yk.length cz⟩ id W
    dsimp only [BrC.agg] at kC
    generalize Lib.compareInt yi id=r at kC hh
    have KC:=Lib.hid kC
    have HHE:=Lib.hid hh
    clear kC hh
    go_wp2_with fail
    refine(KC.out _).mono ?_
    rintro e w1 ⟨rfl,g1⟩
    have HG1:=Lib.hid g1
    clear g1
    dsimp only
    go_wp2
    go_ret2
    exact⟨ret_ib HHE.out,BW.out.trans HG1.out⟩
   ·have hilz:decide ((P0:Int)<(l.length:Int))=false:=by simp;omega
    have hh:false=hb0:=by rw[← HH0.out];simp[hitB,hil]
    have HHE:=Lib.hid hh
    clear hh
    go_wp2
    go_ret2
    exact⟨ret_ib HHE.out,BW.out⟩
theorem tAt (l:List Br) (id:Int) (rv bv:Value) (w:World) (hv:SlBr w bv l) (hlen:l.length≤1000000)
  (hm:∀ i j (hi:i<l.length) (hj:j<l.length),i≤j→cmpId id l[j]<0→cmpId id l[i]<0) :
  Calls Tryz.prog 240 #[.agg #[rv,bv],.int .i64 id] w fun e w' =>
   e=.returned (.tuple #[.int .i64 (passes (fun y=>decide (cmpId id y<0)) l),.bool (hitB (fun y=>decide (cmpId id y=0)) l (passes (fun y=>decide (cmpId id y<0)) l))])∧Grew w w':=by
 have K:=Lib.hid (fun W (hW:Grew w W)=>searchB l id bv W (hv.mono hW) hlen hm)
 generalize hitB (fun y=>decide (cmpId id y=0)) l (passes (fun y=>decide (cmpId id y<0)) l)=hb at K ⊢
 generalize passes (fun y=>decide (cmpId id y<0)) l=P0 at K ⊢
 clear hv hm
 go_enter Tryz.func240,Tryz.ntmps240
 go_wp2_with fail
 refine(K.out _ ((Grew.refl w).alloc _)).mono ?_
 rintro e w1 ⟨rfl,g1⟩
 dsimp only
 go_wp2
 go_ret2
 exact⟨rfl,((Grew.refl w).alloc _).trans g1⟩
end Go.Proofs.YtdochkemaiokfaaGreat
/- tree.known on a right tree, walked. The conditions: the library's own variables hold what they must; the lists are short. -/
namespace Go.Proofs.YtdochkemaiokfaaGreat
open Go.RowKit
theorem ids_asc {l:List Br} (h:∀ i (h:i<l.length),BrAlone l i h):∀ i j (hi:i<l.length) (hj:j<l.length),i<j→l[i].id<l[j].id:=by
 intro i j hi hj hij
 induction j with
 | zero=>omega
 | succ j ih =>
  have h1:=(h (j+1) hj).2.2.1 (by omega)
  simp only [Nat.add_sub_cancel] at h1
  by_cases e:i=j
  ·subst e;exact h1
  ·have:=ih (by omega) (by omega)
   omega
theorem cmpId_lt (id:Int) (b:Br):cmpId id b<0↔b.id<id:=by
 unfold cmpId Lib.compareInt
 split
 ·simp[*]
 ·split<;>simp<;>omega
theorem cmpId_eq (id:Int) (b:Br):cmpId id b=0↔b.id=id:=by
 unfold cmpId Lib.compareInt
 split
 ·simp;omega
 ·split<;>simp<;>omega
theorem cmpId_mono {l:List Br} (h:∀ i (h:i<l.length),BrAlone l i h) (id:Int):∀ i j (hi:i<l.length) (hj:j<l.length),i≤j→cmpId id l[j]<0→cmpId id l[i]<0:=by
 intro i j hi hj hij hc
 rw[cmpId_lt] at hc ⊢
 by_cases e:i=j
 ·subst e;exact hc
 ·have:=ids_asc h i j hi hj (by omega)
  omega
theorem at_some {l:List Br} (h:∀ i (h:i<l.length),BrAlone l i h) (id:Int) (k:Nat) (hk:k<l.length) (hid:l[k].id=id):passes (fun y=>decide (cmpId id y<0)) l=k∧hitB (fun y=>decide (cmpId id y=0)) l k=true:=by
 constructor
 ·refine passes_eq _ l k (by omega) (fun t ht htk=>?_) (fun t ht htk=>?_)
  ·have:=ids_asc h t k ht hk htk
   simp only [decide_eq_true_eq,cmpId_lt]
   omega
  ·simp only [decide_eq_false_iff_not,cmpId_lt]
   by_cases e:k=t
   ·subst e;omega
   ·have:=ids_asc h k t hk ht (by omega)
    omega
 ·simp only [hitB,List.getElem?_eq_getElem hk,decide_eq_true_eq,cmpId_eq]
  exact hid
theorem at_none {l:List Br} (id:Int) (hf:brFind l id=none) (k:Nat):hitB (fun y=>decide (cmpId id y=0)) l k=false:=by
 unfold hitB
 cases hk:l[k]? with
 | none=>rfl
 | some y =>
  have hm:y∈l:=List.mem_of_getElem? hk
  have:=List.find?_eq_none.1 hf y hm
  simp only [decide_eq_false_iff_not,cmpId_eq]
  simpa using this
def knownF (l:List Br) (ids:List Int):Int:=if ids.all (fun id=>(brFind l id).isSome) then 0 else 7
theorem hit_find {l:List Br} (h:∀ i (h:i<l.length),BrAlone l i h) (id:Int):hitB (fun y=>decide (cmpId id y=0)) l (passes (fun y=>decide (cmpId id y<0)) l)=(brFind l id).isSome:=by
 cases ho:brFind l id with
 | none=>exact at_none id ho _
 | some b =>
  obtain⟨k,hk,_,e⟩:=brIdx_some ho
  have hid:l[k].id=id:=by
   rw[e]
   have:=List.find?_some ho
   simpa using this
  obtain⟨h1,h2⟩:=at_some h id k hk hid
  rw[h1,h2]
  rfl
set_option maxHeartbeats 2000000 in
theorem tKnown (rs:List Int) (l:List Br) (ids:List Int) (rv bv kv:Value) (w:World) (hE:Env w) (hr:SlI w rv rs) (hv:SlBr w bv l) (hk:SlI w kv ids) (hf:FewBr l) (hrl:rs.length≤1000000) (hT:RightT ⟨rs,l⟩) :
  Calls Tryz.prog 220 #[.agg #[rv,bv],kv] w fun e w'=>e=.returned (.int .i64 (knownF l ids))∧Grew w w':=by
 have KR:=Lib.hid (fun W (hW:Grew w W)=>tRight rs l rv bv W (hE.mono hW) (hr.mono hW) (hv.mono hW) hf hrl)
 have KA:=Lib.hid (fun id W (hW:Grew w W)=>tAt l id rv bv W (hv.mono hW) hf.1 (cmpId_mono hT.2.1 id))
 have HF:=Lib.hid (fun id=>hit_find hT.2.1 id)
 have HT:=Lib.hid hT
 obtain⟨Ab,cb,rfl,-,-,-⟩:=hv.open_
 obtain⟨A,c,rfl,hlc,hc,hkr⟩:=hk.open_
 unfold maxLen at hc
 have HK:=Lib.hid hkr
 obtain⟨Ar,cr,rfl,-,-,-⟩:=hr.open_
 clear hE hr hv hk hf hrl hT hkr
 generalize hKF:knownF l ids=R
 have HKF:=Lib.hid hKF
 clear hKF
 go_enter Tryz.func220,Tryz.ntmps220
 go_wp2_with fail
 refine(KR.out _ ((Grew.refl w).alloc _)).mono ?_
 rintro e w1 ⟨bb,rfl,hbb,g1⟩
 obtain rfl:=hbb.2 HT.out
 have HG1:=Lib.hid g1
 clear hbb g1
 dsimp only
 go_wp2
 go_loopg [14] ids.length (fun gg s14 wr=>∃ k:Nat,k≤ids.length∧ids.length-k≤gg∧s14=.int .i64 k∧Aside (Grew (w.alloc (.cells [.slice Ar rs.length cr,.slice Ab l.length cb].toArray 43)) wr)∧Aside (∀ i (h:i<ids.length),i<k→(brFind l ids[i]).isSome=true))
 case atStart=>exact⟨0,by omega,by omega,rfl,(show Aside _ from HG1.out),(show Aside _ from fun i h h2=>by omega)⟩
 case round =>
  obtain⟨k,hkk,hgk,rfl,BW,M⟩:=hrel
  have HGW:=Lib.hid (((Grew.refl w).alloc _).trans BW.out)
  by_cases hlt:k<ids.length
  case neg =>
   have hltz:¬ (k:Int)<(ids.length:Int):=by omega
   have hR:R=0:=by
    rw[← HKF.out,knownF,if_pos]
    rw[List.all_eq_true]
    intro x hx
    obtain⟨i,hi,rfl⟩:=List.mem_iff_getElem.1 hx
    exact M.out i hi (by omega)
   have HRR:=Lib.hid hR
   clear hR
   go_wp2
   go_ret
   exact⟨congrArg (fun z=>Ending.returned (Value.int .i64 z)) HRR.out.symm,HGW.out⟩
  have hltz:(k:Int)<(ids.length:Int):=by omega
  have h0z:(0:Int)≤(k:Int):=by omega
  obtain⟨b,off,rfl,hb,hcell⟩:=HK.out (by omega)
  have c0:=hcell wr HGW.out k hlt
  have b0:=new_cell BW.out 0 _ rfl
  have b1:=new_cell BW.out 1 _ rfl
  have kA:=KA.out ids[k] wr HGW.out
  rw[HF.out ids[k]] at kA
  have HBAD:RowKit.Hid ((brFind l ids[k]).isSome=false→R=7):=fun h=>by
   rw[← HKF.out,knownF,if_neg]
   rw[List.all_eq_true]
   intro hall
   have:=hall ids[k] (List.getElem_mem hlt)
   rw[h] at this
   cases this
  have HST:RowKit.Hid ((brFind l ids[k]).isSome=true→∀ i (h:i<ids.length),i<k+1→(brFind l ids[i]).isSome=true):=fun h i hi h2=>by
   by_cases e:i=k
   ·subst e;exact h
   ·exact M.out i hi (by omega)
  generalize (brFind l ids[k]).isSome=q at kA HBAD HST
  generalize ((passes (fun y=>decide (cmpId ids[k] y<0)) l:Nat):Int)=pp at kA
  generalize ids[k]=x at c0 kA
  have KAA:=Lib.hid kA
  clear hcell kA
  go_wp2_with fail
  refine KAA.out.mono ?_
  rintro e w2 ⟨rfl,g2⟩
  have HG2:=Lib.hid g2
  clear g2
  dsimp only
  cases q with
  | false =>
   have HR7:=Lib.hid (HBAD.out rfl)
   go_wp2
   go_ret
   exact⟨congrArg (fun z=>Ending.returned (Value.int .i64 z)) HR7.out.symm,HGW.out.trans HG2.out⟩
  | true =>
   have Hs:=Lib.hid (HST.out rfl)
   go_wp2
   go_roundg (ids.length-(k+1))
   case measure=>omega
   case rel=>exact⟨k+1,by omega,by omega,by go_num,(show Aside _ from BW.out.trans HG2.out),(show Aside _ from Hs.out)⟩
end Go.Proofs.YtdochkemaiokfaaGreat
/- Laws for copy at elements of several cells. No condition. -/
namespace Go.Proofs.YtdochkemaiokfaaGreat
open Go.RowKit
theorem run_copy_rowk {P:Program} (w:World) (dT sT ty elem:TypeId) (g o dLen dCap:Nat) (a:Addr) (sLen sCap k:Nat) (cur:List Value) (t:TypeId) (cs:List Value)
  (hu:P.underlying dT=some (.slice elem)) (hs:(P.info? elem).map (·.size)=some k) (hg:w.heap[g]? = some (.cells cur.toArray t (0,0))) (hn:cs.length=Nat.min sLen dLen*k)
  (hsrc:∀ j v,cs[j]? = some v→w.cell? (a.add j)=some v) (hfit:o+cs.length≤cur.length) (h1:∀ v∈cs,v.oneCell'=true) :
  (Builtin.copy_ #[dT,sT] ty #[.slice (some ⟨g,o,none⟩) dLen dCap,.slice (some a) sLen sCap]).run P w=.ok (goInt (Nat.min sLen dLen)) (w.setRow g (splice cur o cs).toArray):=by
 have hl:=run_loadCells_list (P:=P) w a cs hsrc
 have hst:=run_storeCells_at P g o t cs 0 cur.toArray w hg (by simpa using hfit) h1
 cases hq:P.info? elem with
 | none=>simp[hq] at hs
 | some i =>
  have hi:i.size=k:=by simpa [hq] using hs
  rw[hn] at hl
  simp[Builtin.copy_,run_underlying hu,Builtin.lenOf,Builtin.firstCells,sizeOf,typeInfo,hq,hi,hl,hst,splice]
theorem copyK {P:Program} {w:World} {ops:Array Oper} {rest:List Oper} {o:Oper} {a:Act} {Q:Exit→Act→World→Prop} (hgd:o.guard=none) (d s:Operand) (dT sT:TypeId)
  (ho:o.op=.call { callee:=.builtin .copy,args:=#[d,s],argTypes:=#[dT,sT] }) (elem:TypeId) (hu:P.underlying dT=some (.slice elem)) (k:Nat) (hsz:(P.info? elem).map (·.size)=some k)
  (g off dLen dCap:Nat) (ad:Addr) (sLen sCap:Nat) (hd:a.eval d=.slice (some ⟨g,off,none⟩) dLen dCap) (hs:a.eval s=.slice (some ad) sLen sCap)
  (cur:List Value) (t:TypeId) (hg:w.heap[g]? = some (.cells cur.toArray t (0,0))) (cs:List Value) (hn:cs.length=Nat.min sLen dLen*k)
  (hsrc:∀ j v,cs[j]? = some v→w.cell? (ad.add j)=some v) (hfit:off+cs.length≤cur.length) (h1:∀ v∈cs,v.oneCell'=true) (w0:World) (hb:Grew w0 w) (hBg:w0.heap.size≤g)
  (h:∀ w',Hid (w'.heap[g]? = some (.cells (splice cur off cs).toArray t (0,0)))→Hid (Grew w0 w')→Hid (∀ b,b≠g→w'.heap[b]? = w.heap[b]?)→wpList P ops Q rest (a.put o.dst (goInt (Nat.min sLen dLen))) w') :
  wpList P ops Q (o::rest) a w:=by
 refine wpList_plain hgd fun K hK=>?_
 have hrun:=run_copy_rowk (P:=P) w dT sT o.type elem g off dLen dCap ad sLen sCap k cur t cs hu hsz hg hn hsrc hfit h1
 unfold Oper.wp
 simp[execOp,ho,resolve,invoke,builtin,hd,hs,hrun,Result.andThen]
 exact hK _ _ (h _ (setRow_heap w g _ _ t _ hg) (below_setRow hb hBg _) (fun b hb=>setRow_other w g b _ hb))
theorem copy_run {P:Program} (w:World) (dT sT:TypeId) (elem:TypeId) (hu:P.underlying dT=some (.slice elem)) (k:Nat) (hsz:(P.info? elem).map (·.size)=some k)
  (g off dLen dCap:Nat) (ad:Addr) (sLen sCap:Nat) (cur:List Value) (t:TypeId) (hg:w.heap[g]? = some (.cells cur.toArray t (0,0))) (cs:List Value) (hn:cs.length=Nat.min sLen dLen*k)
  (hsrc:∀ j v,cs[j]? = some v→w.cell? (ad.add j)=some v) (hfit:off+cs.length≤cur.length) (h1:∀ v∈cs,v.oneCell'=true) (w0:World) (hb:Grew w0 w) (hBg:w0.heap.size≤g) :
  ∃ w',(∀ ty,(Builtin.copy_ #[dT,sT] ty #[.slice (some ⟨g,off,none⟩) dLen dCap,.slice (some ad) sLen sCap]).run P w=.ok (goInt (Nat.min sLen dLen)) w')∧w'.heap[g]? = some (.cells (splice cur off cs).toArray t (0,0))∧Grew w0 w'∧∀ b,b≠g→w'.heap[b]? = w.heap[b]? :=
 ⟨_,fun ty=>run_copy_rowk (P:=P) w dT sT ty elem g off dLen dCap ad sLen sCap k cur t cs hu hsz hg hn hsrc hfit h1,setRow_heap w g _ _ t _ hg,below_setRow hb hBg _,fun b hb=>setRow_other w g b _ hb⟩
theorem splice_shift {α:Type} (p q r x:List α) (h:x.length≤r.length):splice (splice (p++q++r) (p.length+x.length) q) p.length x=p++x++q++(p++q++r).drop (p.length+x.length+q.length):=by
 generalize hC:p++q++r=C
 have hl:p.length+x.length≤C.length:=by rw[← hC];simp;omega
 have hp:C.take p.length=p:=by rw[← hC,List.append_assoc,List.take_left]
 have h1:(splice C (p.length+x.length) q).take p.length=p:=by
  unfold splice
  rw[List.take_append_of_le_length (by rw[List.length_take];omega),List.take_take,Nat.min_eq_left (by omega),hp]
 have h2:(splice C (p.length+x.length) q).drop (p.length+x.length)=q++C.drop (p.length+x.length+q.length):=by
  unfold splice
  rw[List.drop_append_of_le_length (by rw[List.length_take];omega),List.drop_eq_nil_of_le (by rw[List.length_take];omega),List.nil_append]
 rw[splice,h1,h2]
 simp
theorem splice_new {α:Type} (p q z x:List α):splice (splice (p++z) p.length x) (p.length+x.length) q=p++x++q++z.drop (x.length+q.length):=by
 have h1:splice (p++z) p.length x=p++x++z.drop x.length:=by
  unfold splice
  rw[List.take_left,List.drop_append,List.drop_eq_nil_of_le (by omega),Nat.add_sub_cancel_left]
  simp
 rw[h1,splice]
 rw[show p.length+x.length=(p++x).length by simp,List.take_left,List.drop_append,List.drop_eq_nil_of_le (by omega),Nat.add_sub_cancel_left,List.drop_drop]
 simp
theorem cells_at {w:World} {g:Nat} {cs:List Value} {t:TypeId} {ab:Nat × Nat} (h:w.heap[g]? = some (.cells cs.toArray t ab)) (j:Nat) (v:Value) (hj:cs[j]? = some v):w.cell? ⟨g,j,none⟩=some v:=by
 rw[cell_of_row _ _ _ _ _ _ h]
 simpa using hj
end Go.Proofs.YtdochkemaiokfaaGreat
/- slices.Insert of one relation, on a row of the call's own. No condition but the sizes that a slice can have. -/
namespace Go.Proofs.YtdochkemaiokfaaGreat
open Go.RowKit
def Fresh (n:Nat) (v:Value):Prop:=∀ k,v.ownBlock=some k→n≤k
theorem Fresh.nil (n c d:Nat):Fresh n (.slice none c d):=fun k hk=>by simp[Value.ownBlock] at hk
theorem Fresh.at_ {n b o c d:Nat} {s:Option Nat} (h:n≤b):Fresh n (.slice (some ⟨b,o,s⟩) c d):=fun k hk=>by simp[Value.ownBlock] at hk;omega
theorem Fresh.own {w:World} {base:Nat} {e:TypeId} {k:Nat} {v:Value} {n:Nat} {xs:List Value} (h:w.ownsRow base e k v n xs):Fresh base v:=fun k hk=>(h.lt k hk).1
theorem Fresh.le {m n:Nat} {v:Value} (h:Fresh n v) (hm:m≤n):Fresh m v:=fun k hk=>Nat.le_trans hm (h k hk)
theorem flat_take {α:Type} {f:α→List Value} {k:Nat} (hk:∀ x,(f x).length=k) (l:List α) (i:Nat):(l.flatMap f).take (i*k)=(l.take i).flatMap f∧(l.flatMap f).drop (i*k)=(l.drop i).flatMap f:=by
 induction l generalizing i with
 | nil=>simp
 | cons x r ih =>
  cases i with
  | zero=>simp
  | succ i =>
   have e:(i+1)*k=(f x).length+i*k:=by rw[hk,Nat.succ_mul];omega
   rw[List.flatMap_cons,e,List.take_length_add_append,List.drop_length_add_append,(ih i).1,(ih i).2]
   simp
end Go.Proofs.YtdochkemaiokfaaGreat
/- append of a slice, nil let in, to an empty list that was just made. No condition but the sizes that a slice can have. -/
namespace Go.Proofs.YtdochkemaiokfaaGreat
open Go.RowKit
def Lies (n:Nat) (w:World) (v:Value):Prop:=∀ k,v.ownBlock=some k→n≤k∧k<w.heap.size
theorem Lies.mono {n:Nat} {w w':World} {v:Value} (h:Lies n w v) (hs:w.heap.size≤w'.heap.size):Lies n w' v:=fun k hk=>⟨(h k hk).1,Nat.lt_of_lt_of_le (h k hk).2 hs⟩
end Go.Proofs.YtdochkemaiokfaaGreat
/- slices.Insert of one number, on a row of the call's own, with a word on all other blocks. No condition but the sizes that a slice can have. -/
namespace Go.Proofs.YtdochkemaiokfaaGreat
open Go.RowKit
def RetRow3 (e:TypeId) (k:Nat) (cs:List Value) (n base:Nat) (s:Value) (w:World) (x:Ending) (w':World):Prop:=∃ v,x=.returned v∧w'.ownsRow base e k v n cs∧w.grownBy w' s.ownBlock∧(v.ownBlock=s.ownBlock∨∀ b,v.ownBlock=some b→w.heap.size≤b)
theorem grown_of {w0 w w':World} {g:Nat} {o:Obj} (h:Grew w0 w) (h':Grew w0 w') (hg:w'.heap[g]? = some o) (hk:∀ b,b≠g→w'.heap[b]? = w.heap[b]?):w.grownBy w' (some g):=by
 refine⟨h'.os.trans h.os.symm,h'.tape.trans h.tape.symm,h'.output.trans h.output.symm,?_,fun k _ hne=>hk k (fun e=>hne (by rw[e]))⟩
 refine Nat.le_of_not_lt fun hlt=>?_
 have hgl:=(Array.getElem?_eq_some_iff.1 hg).1
 have h1:=hk w'.heap.size (by omega)
 rw[Array.getElem?_eq_none (Nat.le_refl _),Array.getElem?_eq_getElem hlt] at h1
 cases h1
theorem grown_grew {w w':World} (h:Grew w w') (row:Option Nat):w.grownBy w' row:=⟨h.os,h.tape,h.output,h.size,fun k hk _=>h.block k hk⟩
theorem grew_trans_grown {a b c:World} {row:Option Nat} (h:Grew a b) (k:b.grownBy c row):a.grownBy c row:=(grown_grew h row).trans k
theorem own_splice {w:World} {g base n cap k:Nat} {e:TypeId} {cur xs:List Value} (hb:base≤g) (hg:w.heap[g]? = some (.cells cur.toArray e (0,0))) (hn:n≤cap) (hc:cap≤maxLen) (hs:cur.length=cap*k) (hx:xs.length=n*k) (ht:∃ r,cur=xs++r):w.ownsRow base e k (.slice (some ⟨g,0,none⟩) n cap) n xs:=by
 obtain⟨r,rfl⟩:=ht
 refine⟨hx,.inr ⟨g,cap,_,rfl,hb,hg,hn,hc,by simpa using hs,?_⟩⟩
 rw[← hx]
 simp
theorem sizeI (w:World):(Go.sizeOf 3).run Tryz.prog w=.ok 1 w:=by kernel_rfl
theorem infoSzI:(Tryz.prog.info? 3).map (·.size)=some 1:=by kernel_rfl
theorem overlapsI (w:World) (g vb o:Nat) (hne:vb≠g) (cur xc:List Value) (hg:w.heap[g]? = some (.cells cur.toArray 3 (0,0))) (hv:w.heap[vb]? = some (.cells xc.toArray 3 (0,0))) (hpos:0<cur.length) (lb cb:Nat) :
  (callFunc 218 #[.slice (some ⟨vb,0,none⟩) 1 1,.slice (some ⟨g,o,none⟩) lb cb]).run Tryz.prog w=.ok (.value (.bool false)) w:=by
 rw[run_callFunc_extern Tryz.func218 (by kernel_rfl) (by kernel_rfl) (by kernel_rfl) (e:=Extern.SlicesOverlaps.overlaps #[38,38] #[4]) (by kernel_rfl),
  Lib.run_overlaps_apart w 38 4 3 Tryz.underlying38 1 sizeI ⟨vb,0,none⟩ ⟨g,o,none⟩ 1 1 lb cb hne 3 3 xc.toArray.size cur.toArray.size (by simp[World.shape?,hv]) (by simp[World.shape?,hg]) (by simp only [List.size_toArray];omega) (by simp[World.frozen?,hv]) (by simp[World.frozen?,hv])]
 rfl
set_option maxHeartbeats 4000000 in
set_option maxRecDepth 100000 in
theorem insShiftI (w0:World) (g cap n i vb:Nat) (cur p q r xc:List Value) (w:World) (hi:i<n) (hroom:n+1≤cap) (hc:cap≤maxLen) (hne:vb≠g) (hG:Grew w0 w) (hbg:w0.heap.size≤g)
  (hg:w.heap[g]? = some (.cells cur.toArray 3 (0,0))) (hcur:cur=p++q++r) (hp:p.length=i) (hq:q.length=(n-i)) (hr:1≤r.length) (hcl:cur.length=cap)
  (hv:w.heap[vb]? = some (.cells xc.toArray 3 (0,0))) (hx:xc.length=1) (h1c:∀ v∈q,v.oneCell'=true) (h1x:∀ v∈xc,v.oneCell'=true) :
  Calls Tryz.prog 187 #[.slice (some ⟨g,0,none⟩) n cap,.int .i64 i,.slice (some ⟨vb,0,none⟩) 1 1] w (RetRow3 3 1 (p++xc++q) (n+1) w0.heap.size (.slice (some ⟨g,0,none⟩) n cap) w):=by
 have hlen:cur.length=i+(n-i)+r.length:=by rw[hcur];simp only [List.length_append,hp,hq]
 unfold maxLen at hc
 have hov:=fun lb cb=>overlapsI w g vb ((i+1)) hne cur xc hg hv (by omega) lb cb
 have hz1:¬ ((i:Int)=(n:Int)):=by omega
 have hb2:¬ (cap=i+1):=by omega
 have hb3:(i:Int)≤(n:Int)+1:=by omega
 have hb4:¬ (cap=i):=by omega
 have hin:i≤n:=by omega
 have HG0:=Lib.hid hg
 have HV:=Lib.hid hv
 have HC:=Lib.hid hcur
 have HPQ:=Lib.hid (show p.length=i∧q.length=(n-i)∧1≤r.length∧xc.length=1 from⟨hp,hq,hr,hx⟩)
 have H1:=Lib.hid (show(∀ v∈q,v.oneCell'=true)∧(∀ v∈xc,v.oneCell'=true) from⟨h1c,h1x⟩)
 have HCL:=Lib.hid hcl
 clear hg hv hcur hp hq hr hx h1c h1x hlen hcl
 go_enter Tryz.func187,Tryz.ntmps187
 go_wp2_with (simp only [hov])
 have hw1:IntKind.i64.wrap ((i:Int)+1)=(i:Int)+1:=IntWalk.i64_in _ (by omega)
 have hb1:(0:Int)≤(i:Int)+1:=by omega
 have htn:((i:Int)+1).toNat=i+1:=by omega
 have hb5:(i:Int)+1≤(n:Int)+1:=by omega
 have h0i:(0:Int)≤(i:Int):=by omega
 refine region_still_tail 8 (by kernel_rfl) (by kernel_rfl) ?_
 simp only [List.take_succ_cons,List.take_zero,List.drop_succ_cons,List.drop_zero]
 iterate 8 still_step
 clear hw1 hb1 htn hb5
 refine wpStill_nil ?_
 refine copyK rfl _ _ 38 38 rfl 3 Tryz.underlying38 1 infoSzI g ((i+1)) (n-i) (cap-(i+1)) ⟨g,i,none⟩ (n+1-i) (cap-i) (by rfl) (by rfl) cur 3 (by have:=HG0.out;exact this) q ?_ ?_ ?_ ?_ w0 (by exact hG.drew) hbg ?_
 ·rw[HPQ.out.2.1]
  congr 1
  simp only [Nat.min_def]
  split<;>omega
 ·intro j v hj
  rw[add_lit]
  refine cells_at HG0.out (i+j) v ?_
  rw[HC.out,List.append_assoc,← HPQ.out.1,List.getElem?_append_right (by omega),Nat.add_sub_cancel_left,List.getElem?_append_left (List.getElem?_eq_some_iff.1 hj).1]
  exact hj
 ·have h1:=HPQ.out
  rw[HC.out]
  simp only [List.length_append]
  omega
 ·exact fun v hv=>H1.out.1 v hv
 intro w1 HG1 HW1 HK1
 have hvb1:w1.heap[vb]? = some (.cells xc.toArray 3 (0,0)):=(HK1.out vb hne).trans HV.out
 obtain⟨w2,hrun,hg2,hG2,hk2⟩:=copy_run (P:=Tryz.prog) w1 38 38 3 Tryz.underlying38 1 infoSzI g (i) (n+1-i) (cap-i) ⟨vb,0,none⟩ 1 1 _ 3 HG1.out xc (by
   rw[HPQ.out.2.2.2]
   have:Nat.min 1 (n+1-i)=1:=by simp only [Nat.min_def];split<;>omega
   rw[this]) (fun j v hj=>by rw[add_lit,Nat.zero_add];exact cells_at hvb1 j v hj) (by
   have h1:=HPQ.out
   rw[length_splice _ _ _ (by rw[HC.out];simp only [List.length_append];omega),HC.out]
   simp only [List.length_append]
   omega) H1.out.2 w0 HW1.out hbg
 have HFin:RowKit.Hid (w2.ownsRow w0.heap.size 3 1 (.slice (some ⟨g,0,none⟩) (n+1) cap) (n+1) (p++xc++q)):=by
  have h1:=HPQ.out
  have hs:=splice_shift p q r xc (by omega)
  rw[h1.1,h1.2.2.2,← HC.out,show i+1=(i+1) by omega] at hs
  refine own_splice hbg hg2 (by omega) (by unfold maxLen;omega) ?_ (by simp only [List.length_append];omega) ⟨_,hs⟩
  rw[length_splice _ _ _ (by rw[length_splice _ _ _ (by rw[HC.out];simp only [List.length_append];omega),HC.out];simp only [List.length_append];omega),length_splice _ _ _ (by rw[HC.out];simp only [List.length_append];omega)]
  have:=HCL.out
  omega
 have HGR:=Lib.hid (grown_of hG hG2 hg2 (fun b hb=>(hk2 b hb).trans (HK1.out b hb)))
 clear hg2 hG2 hvb1 hk2
 go_wp2
 go_ret
 exact⟨_,rfl,HFin.out,HGR.out,.inl rfl⟩
theorem zerosI (w:World) (g cap n i:Nat) (cur p q:List Value) (hi:i<n) (hnc:n≤cap) (hroom:cap<n+1) (hn:n≤1000000) (hg:w.heap[g]? = some (.cells cur.toArray 3 (0,0))) (hcur:∃ r,cur=p++q++r) (hp:p.length=i) :
  ∃(G:Nat) (Z:List Value) (w1:World),(∀ ty,(Builtin.append_ #[38,3] ty #[.slice (some ⟨g,0,none⟩) i cap,.int .i64 ((n:Int)+1-(i:Int))]).run Tryz.prog w=.ok (.slice (some ⟨w.heap.size,0,none⟩) (n+1) G) w1) ∧
   n+1≤G∧G≤maxLen∧w1.heap[w.heap.size]? = some (.cells (p++Z).toArray 3 (0,0))∧(n+1-i)≤Z.length∧i+Z.length=G∧Grew w w1:=by
 obtain⟨i0,hi0,hz0,hz1,hz2⟩:=info_parts cinfoI
 obtain⟨r,hcur⟩:=hcur
 have hkk:(n:Int)+1-(i:Int)=((n+1-i:Nat):Int):=by omega
 have hik:i+(n+1-i)=n+1:=by omega
 have hold:(Builtin.firstCells i0.size i (.slice (some ⟨g,0,none⟩) i cap)).run Tryz.prog w.drew=.ok p.toArray w.drew:=by
  rw[hz1]
  refine run_firstCells_some w.drew 1 i ⟨g,0,none⟩ i cap p (by omega) (fun j v hj=>?_)
  rw[add_lit,Nat.zero_add]
  refine cells_at (w:=w.drew) hg j v ?_
  rw[hcur,List.append_assoc,List.getElem?_append_left (List.getElem?_eq_some_iff.1 hj).1]
  exact hj
 have h:=fun ty=>Lib.run_append_grow_zeros w 38 3 ty 3 i0 _ .i64 .i64 Tryz.underlying38 Tryz.underlying3 hi0 hz0 (some ⟨g,0,none⟩) i cap p hold (n+1-i) (by omega) (by omega) (by omega) (by omega) (by rw[hz2];omega) (by rw[hz2,hik];exact growslice_fits hroom (by omega))
 simp only [hik] at h
 rw[hkk]
 obtain⟨ZC,hZC⟩:∃ ZC,ZC=(Value.int .i64 0).cells:=⟨_,rfl⟩
 have hZs:ZC.size=1:=by rw[hZC];rfl
 rw[← hZC] at h
 refine⟨_,(Builtin.zeroCells ZC (n+1-i)++Builtin.zeroCells ZC (grownCap w (n+1) cap 3-(n+1))).toList,_,h,grownCap_ge w _ _ _,grownCap_le_maxLen w (n+1) cap _ (by unfold maxLen;omega),?_,?_,?_,(Grew.refl w).drew.alloc _⟩
 ·have:=heap_alloc_last w.drew (.cells (p.toArray++Builtin.zeroCells ZC (n+1-i)++Builtin.zeroCells ZC (grownCap w (n+1) cap 3-(n+1))) 3 (0,0))
  rw[show(p++(Builtin.zeroCells ZC (n+1-i)++Builtin.zeroCells ZC (grownCap w (n+1) cap 3-(n+1))).toList).toArray=p.toArray++Builtin.zeroCells ZC (n+1-i)++Builtin.zeroCells ZC (grownCap w (n+1) cap 3-(n+1)) by simp[Array.append_assoc]]
  exact this
 ·simp[Builtin.zeroCells,hZs]
 ·have h9:=grownCap_ge w (n+1) cap 3
  simp only [Builtin.zeroCells,hZs,Array.toList_append,List.length_append,Array.length_toList,Array.size_map,Array.size_range]
  omega
set_option maxHeartbeats 4000000 in
set_option maxRecDepth 100000 in
theorem insGrowI (w0:World) (g cap n i vb:Nat) (cur p q r xc:List Value) (w:World) (hi:i<n) (hnc:n≤cap) (hroom:cap<n+1) (hn:n≤1000000) (hG:Grew w0 w)
  (hg:w.heap[g]? = some (.cells cur.toArray 3 (0,0))) (hcur:cur=p++q++r) (hp:p.length=i) (hq:q.length=(n-i))
  (hv:w.heap[vb]? = some (.cells xc.toArray 3 (0,0))) (hx:xc.length=1) (h1c:∀ v∈q,v.oneCell'=true) (h1x:∀ v∈xc,v.oneCell'=true) :
  Calls Tryz.prog 187 #[.slice (some ⟨g,0,none⟩) n cap,.int .i64 i,.slice (some ⟨vb,0,none⟩) 1 1] w (RetRow3 3 1 (p++xc++q) (n+1) w0.heap.size (.slice (some ⟨g,0,none⟩) n cap) w):=by
 obtain⟨G,Z,w1,hrun1,hG1,hG2,hh1,hZ,hZl,hgr1⟩:=zerosI w g cap n i cur p q hi hnc hroom hn hg ⟨r,hcur⟩ hp
 unfold maxLen at hG2
 have hglt:g<w.heap.size:=(Array.getElem?_eq_some_iff.1 hg).1
 have hvlt:vb<w.heap.size:=(Array.getElem?_eq_some_iff.1 hv).1
 have hv1:w1.heap[vb]? = some (.cells xc.toArray 3 (0,0)):=(hgr1.block vb hvlt).trans hv
 have hg1:w1.heap[g]? = some (.cells cur.toArray 3 (0,0)):=(hgr1.block g hglt).trans hg
 have hmin:Nat.min 1 (n+1-i)=1:=by simp only [Nat.min_def];split<;>omega
 obtain⟨w2,hrun2,hh2,hgr2,hk2⟩:=copy_run (P:=Tryz.prog) w1 38 38 3 Tryz.underlying38 1 infoSzI w.heap.size (i) (n+1-i) (G-i) ⟨vb,0,none⟩ 1 1 _ 3 hh1 xc (by rw[hx,hmin]) (fun j v hj=>by rw[add_lit,Nat.zero_add];exact cells_at hv1 j v hj) (by rw[List.length_append,hp,hx];omega) h1x w hgr1 (Nat.le_refl _)
 have hg2:w2.heap[g]? = some (.cells cur.toArray 3 (0,0)):=(hk2 g (by omega)).trans hg1
 have hz1:¬ ((i:Int)=(n:Int)):=by omega
 have hz3:(cap:Int)<(n:Int)+1:=by omega
 have hb2:¬ (G=i+1):=by omega
 have hb3:(i:Int)≤(n:Int)+1:=by omega
 have hb4:¬ (cap=i):=by omega
 have hb5:¬ (G=i):=by omega
 have hin:i≤n:=by omega
 have hin2:(i:Int)≤(n:Int):=by omega
 have HR2:=Lib.hid (show w2.heap[w.heap.size]? = _∧w2.heap[g]? = _∧Grew w w2 from⟨hh2,hg2,hgr2⟩)
 have HC:=Lib.hid hcur
 have HPQ:=Lib.hid (show p.length=i∧q.length=(n-i)∧xc.length=1∧(n+1-i)≤Z.length∧i+Z.length=G from⟨hp,hq,hx,hZ,hZl⟩)
 have H1:=Lib.hid (show(∀ v∈q,v.oneCell'=true)∧(∀ v∈xc,v.oneCell'=true) from⟨h1c,h1x⟩)
 clear hg hv hcur hp hq hx h1c h1x hh1 hZ hZl hgr1 hv1 hg1 hmin hh2 hgr2 hk2 hg2 hglt hvlt
 obtain⟨H,hH⟩:∃ H,H=w.heap.size:=⟨_,rfl⟩
 rw[← hH] at HR2 hrun1 hrun2
 have HH:=Lib.hid hH
 clear hH
 go_enter Tryz.func187,Tryz.ntmps187
 go_wp2_with (at_builtin;refine Lib.wpList_append_run _ rfl _ _ _ _ rfl _ _ rfl rfl _ _ (hrun1 _) ?_)
 have hw1:IntKind.i64.wrap ((i:Int)+1)=(i:Int)+1:=IntWalk.i64_in _ (by omega)
 have hb6:(0:Int)≤(i:Int)+1:=by omega
 have htn:((i:Int)+1).toNat=i+1:=by omega
 have hb7:(i:Int)+1≤(n:Int)+1:=by omega
 have h0i:(0:Int)≤(i:Int):=by omega
 refine region_still_tail 8 (by kernel_rfl) (by kernel_rfl) ?_
 simp only [List.take_succ_cons,List.take_zero,List.drop_succ_cons,List.drop_zero]
 iterate 8 still_step
 clear hw1 hb6 htn hb7
 refine wpStill_nil ?_
 refine copyK rfl _ _ 38 38 rfl 3 Tryz.underlying38 1 infoSzI H ((i+1)) (n-i) (G-(i+1)) ⟨g,i,none⟩ (n-i) (cap-i) (by rfl) (by rfl) _ 3 (by have:=HR2.out.1;exact this) q ?_ ?_ ?_ ?_ w (by exact HR2.out.2.2.drew) (by rw[HH.out];exact Nat.le_refl _) ?_
 ·rw[HPQ.out.2.1]
  congr 1
  simp only [Nat.min_def]
  split<;>omega
 ·intro j v hj
  rw[add_lit]
  refine cells_at (w:=w2.drew) HR2.out.2.1 (i+j) v ?_
  rw[HC.out,List.append_assoc,← HPQ.out.1,List.getElem?_append_right (by omega),Nat.add_sub_cancel_left,List.getElem?_append_left (List.getElem?_eq_some_iff.1 hj).1]
  exact hj
 ·have h1:=HPQ.out
  rw[length_splice _ _ _ (by rw[List.length_append];omega),List.length_append]
  omega
 ·exact fun v hv=>H1.out.1 v hv
 intro w3 HG3 HW3 HK3
 have HFin:RowKit.Hid (w3.ownsRow w0.heap.size 3 1 (.slice (some ⟨H,0,none⟩) (n+1) G) (n+1) (p++xc++q)):=by
  have h1:=HPQ.out
  have hs:=splice_new p q Z xc
  rw[h1.1,h1.2.2.1,show i+1=(i+1) by omega] at hs
  refine own_splice (by rw[HH.out];exact hG.size) HG3.out (by omega) (by unfold maxLen;omega) ?_ (by simp only [List.length_append];omega) ⟨_,hs⟩
  rw[length_splice _ _ _ (by rw[length_splice _ _ _ (by rw[List.length_append];omega),List.length_append];omega),length_splice _ _ _ (by rw[List.length_append];omega),List.length_append,h1.1]
  have:=h1.2.2.2.2
  omega
 go_wp2
 go_ret
 exact⟨_,rfl,HFin.out,grown_grew HW3.out _,.inr fun b hb=>by simp[Value.ownBlock] at hb;rw[← hb,HH.out];exact Nat.le_refl _⟩
set_option maxHeartbeats 4000000 in
set_option maxRecDepth 100000 in
theorem insEndI (w0:World) (n vb:Nat) (xs xc:List Value) (v:Value) (w:World) (hown:w.ownsRow w0.heap.size 3 1 v n xs) (hG:Grew w0 w) (hl:n≤1000000)
  (hv:w.heap[vb]? = some (.cells xc.toArray 3 (0,0))) (hx:xc.length=1) (h1x:∀ v∈xc,v.oneCell'=true) :
  Calls Tryz.prog 187 #[v,.int .i64 n,.slice (some ⟨vb,0,none⟩) 1 1] w (RetRow3 3 1 (xs++xc) (n+1) w0.heap.size v w):=by
 obtain⟨i0,hi,hz0,hz1,hz2⟩:=info_parts cinfoI
 have HO:=Lib.hid hown
 have HV:=Lib.hid (fun j u hj=>(by rw[Nat.zero_add];exact cells_at hv j u hj:w.cell? ⟨vb,0+j,none⟩=some u))
 have HX:=Lib.hid (show xc.length=1*1 from hx)
 have H1:=Lib.hid h1x
 have hf:∃(A:Option Addr) (c:Nat),v=.slice A n c∧n≤c∧c≤maxLen∧(A=none→n=0∧c=0):=by
  rcases hown.2 with ⟨rfl,rfl⟩|⟨g,cap,cur,rfl,_,_,h1,h2,_⟩
  ·exact⟨_,_,rfl,Nat.le_refl _,Nat.zero_le _,fun _=>⟨rfl,rfl⟩⟩
  ·exact⟨_,_,rfl,h1,h2,fun h=>by cases h⟩
 obtain⟨A,c,rfl,hnc,hc,hA⟩:=hf
 unfold maxLen at hc
 clear hown hv hx h1x
 cases A with
 | none =>
  obtain⟨rfl,rfl⟩:=hA rfl
  clear hA
  go_enter Tryz.func187,Tryz.ntmps187
  go_wp2_with (at_builtin;refine wpList_append_lies _ rfl _ _ 38 rfl w0.heap.size 3 i0 (.int .i64 0) 1 8 Tryz.underlying38 hi hz0 hz1 hz2 rfl (by omega) _ _ _ (by rfl) HO.out ⟨vb,0,none⟩ 1 1 xc (by rfl) HX.out (fun j u hj=>by rw[add_lit];exact HV.out j u hj) H1.out (by omega) (by unfold maxLen;omega) (by omega) hG.size w.heap.size rfl ?_;intro g3 cap3 w3 hown3 hgr3 hat3 hlt3)
  go_ret
  exact⟨_,rfl,hown3,hgr3,hat3.imp (fun h=>h.symm) (fun h b hb=>by simp[Value.ownBlock] at hb;omega)⟩
 | some a =>
  clear hA
  by_cases hcn:c=n
  ·subst hcn
   go_enter Tryz.func187,Tryz.ntmps187
   go_wp2_with (at_builtin;refine wpList_append_lies _ rfl _ _ 38 rfl w0.heap.size 3 i0 (.int .i64 0) 1 8 Tryz.underlying38 hi hz0 hz1 hz2 rfl (by omega) _ _ _ (by rfl) HO.out ⟨vb,0,none⟩ 1 1 xc (by rfl) HX.out (fun j u hj=>by rw[add_lit];exact HV.out j u hj) H1.out (by omega) (by unfold maxLen;omega) (by omega) hG.size w.heap.size rfl ?_;intro g3 cap3 w3 hown3 hgr3 hat3 hlt3)
   go_ret
   exact⟨_,rfl,hown3,hgr3,hat3.imp (fun h=>h.symm) (fun h b hb=>by simp[Value.ownBlock] at hb;omega)⟩
  ·go_enter Tryz.func187,Tryz.ntmps187
   go_wp2_with (at_builtin;refine wpList_append_lies _ rfl _ _ 38 rfl w0.heap.size 3 i0 (.int .i64 0) 1 8 Tryz.underlying38 hi hz0 hz1 hz2 rfl (by omega) _ _ _ (by rfl) HO.out ⟨vb,0,none⟩ 1 1 xc (by rfl) HX.out (fun j u hj=>by rw[add_lit];exact HV.out j u hj) H1.out (by omega) (by unfold maxLen;omega) (by omega) hG.size w.heap.size rfl ?_;intro g3 cap3 w3 hown3 hgr3 hat3 hlt3)
   go_ret
   exact⟨_,rfl,hown3,hgr3,hat3.imp (fun h=>h.symm) (fun h b hb=>by simp[Value.ownBlock] at hb;omega)⟩
theorem insertI (w0:World) (l:List Int) (x:Int) (i vb:Nat) (v:Value) (w:World) (hown:w.ownsRow w0.heap.size 3 1 v l.length (l.flatMap oneI)) (hG:Grew w0 w) (hi:i≤l.length) (hl:l.length≤1000000)
  (hv:w.heap[vb]? = some (.cells (oneI x).toArray 3 (0,0))) (hne:some vb≠v.ownBlock) :
  Calls Tryz.prog 187 #[v,.int .i64 i,.slice (some ⟨vb,0,none⟩) 1 1] w (RetRow3 3 1 ((l.take i++[x]++l.drop i).flatMap oneI) (l.length+1) w0.heap.size v w):=by
 have hx1:∀ v∈(oneI x),v.oneCell'=true:=fun v hv=>one_cellsI [x] v (by simpa using hv)
 have hxl:(oneI x).length=1:=rfl
 obtain⟨ht,hd⟩:=flat_take (f:=oneI) (k:=1) (fun _=>rfl) l i
 rw[Nat.mul_one] at ht hd
 have hfl:=flatMap_len oneI 1 (fun _=>rfl) l
 by_cases e:i=l.length
 ·subst e
  have:=insEndI w0 l.length vb (l.flatMap oneI) (oneI x) v w hown hG hl hv hxl hx1
  simpa [List.flatMap_append] using this
 ·rcases hown.2 with ⟨_,h0⟩|⟨g,cap,cur,rfl,hbg,hh,h1,h2,h3,h4⟩
  ·omega
  have hres:(l.take i++[x]++l.drop i).flatMap oneI=(l.flatMap oneI).take (i)++(oneI x)++(l.flatMap oneI).drop (i):=by
   rw[ht,hd];simp[List.flatMap_append]
  have hcur:cur.toList=(l.flatMap oneI).take (i)++(l.flatMap oneI).drop (i)++cur.toList.drop (l.length*1):=by
   rw[List.take_append_drop,← h4,List.take_append_drop]
  have hh':w.heap[g]? = some (.cells cur.toList.toArray 3 (0,0)):=by simpa using hh
  have hp:((l.flatMap oneI).take (i)).length=i:=by rw[List.length_take,hfl];omega
  have hq:((l.flatMap oneI).drop i).length=l.length-i:=by rw[List.length_drop,hfl];omega
  have hne':vb≠g:=fun h=>hne (by rw[h];rfl)
  have hq1:∀ v∈(l.flatMap oneI).drop (i),v.oneCell'=true:=fun v hv=>one_cellsI l v (List.mem_of_mem_drop hv)
  rw[hres]
  by_cases hroom:l.length+1≤cap
  ·exact insShiftI w0 g cap l.length i vb _ _ _ _ _ w (by omega) hroom h2 hne' hG hbg hh' hcur hp hq (by rw[List.length_drop,Array.length_toList,h3];omega) (by simpa using h3) hv hxl hq1 hx1
  ·exact insGrowI w0 g cap l.length i vb _ _ _ _ _ w (by omega) h1 (by omega) hl hG hh' hcur hp hq hv hxl hq1 hx1
end Go.Proofs.YtdochkemaiokfaaGreat
/- slices.Insert of one branch, on a row of the call's own, with a word on all other blocks. No condition but the sizes that a slice can have. -/
namespace Go.Proofs.YtdochkemaiokfaaGreat
open Go.RowKit
theorem cinfoB:(Tryz.prog.info? 66).map (fun i=>(i.zero,i.size,i.bytes))=some (some (.agg #[.int .i64 0,.int .i64 0,.int .i64 0,.string ⟨#[]⟩,.string ⟨#[]⟩,.slice none 0 0]),6,80):=by kernel_rfl
theorem one_cellsB (l:List BrC) (h:∀ c∈l,c.kv.oneCell'=true):∀ u∈l.flatMap BrC.cells,u.oneCell'=true:=by
 intro u hu
 rw[List.mem_flatMap] at hu
 obtain⟨x,hx0,hx⟩:=hu
 simp[BrC.cells] at hx
 rcases hx with rfl|rfl|rfl|rfl|rfl|rfl
 all_goals first|rfl|exact h x hx0
theorem sizeB (w:World):(Go.sizeOf 66).run Tryz.prog w=.ok 6 w:=by kernel_rfl
theorem infoSzB:(Tryz.prog.info? 66).map (·.size)=some 6:=by kernel_rfl
theorem overlapsB (w:World) (g vb o:Nat) (hne:vb≠g) (cur xc:List Value) (hg:w.heap[g]? = some (.cells cur.toArray 66 (0,0))) (hv:w.heap[vb]? = some (.cells xc.toArray 66 (0,0))) (hpos:0<cur.length) (lb cb:Nat) :
  (callFunc 185 #[.slice (some ⟨vb,0,none⟩) 1 1,.slice (some ⟨g,o,none⟩) lb cb]).run Tryz.prog w=.ok (.value (.bool false)) w:=by
 rw[run_callFunc_extern Tryz.func185 (by kernel_rfl) (by kernel_rfl) (by kernel_rfl) (e:=Extern.SlicesOverlaps.overlaps #[41,41] #[4]) (by kernel_rfl),
  Lib.run_overlaps_apart w 41 4 66 Tryz.underlying41 6 sizeB ⟨vb,0,none⟩ ⟨g,o,none⟩ 1 1 lb cb hne 66 66 xc.toArray.size cur.toArray.size (by simp[World.shape?,hv]) (by simp[World.shape?,hg]) (by simp only [List.size_toArray];omega) (by simp[World.frozen?,hv]) (by simp[World.frozen?,hv])]
 rfl
set_option maxHeartbeats 4000000 in
set_option maxRecDepth 100000 in
theorem insShiftB (w0:World) (g cap n i vb:Nat) (cur p q r xc:List Value) (w:World) (hi:i<n) (hroom:n+1≤cap) (hc:cap≤maxLen) (hne:vb≠g) (hG:Grew w0 w) (hbg:w0.heap.size≤g)
  (hg:w.heap[g]? = some (.cells cur.toArray 66 (0,0))) (hcur:cur=p++q++r) (hp:p.length=i*6) (hq:q.length=(n-i)*6) (hr:6≤r.length) (hcl:cur.length=cap*6)
  (hv:w.heap[vb]? = some (.cells xc.toArray 66 (0,0))) (hx:xc.length=6) (h1c:∀ v∈q,v.oneCell'=true) (h1x:∀ v∈xc,v.oneCell'=true) :
  Calls Tryz.prog 133 #[.slice (some ⟨g,0,none⟩) n cap,.int .i64 i,.slice (some ⟨vb,0,none⟩) 1 1] w (RetRow3 66 6 (p++xc++q) (n+1) w0.heap.size (.slice (some ⟨g,0,none⟩) n cap) w):=by
 have hlen:cur.length=i*6+(n-i)*6+r.length:=by rw[hcur];simp only [List.length_append,hp,hq]
 unfold maxLen at hc
 have hov:=fun lb cb=>overlapsB w g vb ((i+1)*6) hne cur xc hg hv (by omega) lb cb
 have hz1:¬ ((i:Int)=(n:Int)):=by omega
 have hb2:¬ (cap=i+1):=by omega
 have hb3:(i:Int)≤(n:Int)+1:=by omega
 have hb4:¬ (cap=i):=by omega
 have hin:i≤n:=by omega
 have HG0:=Lib.hid hg
 have HV:=Lib.hid hv
 have HC:=Lib.hid hcur
 have HPQ:=Lib.hid (show p.length=i*6∧q.length=(n-i)*6∧6≤r.length∧xc.length=6 from⟨hp,hq,hr,hx⟩)
 have H1:=Lib.hid (show(∀ v∈q,v.oneCell'=true)∧(∀ v∈xc,v.oneCell'=true) from⟨h1c,h1x⟩)
 have HCL:=Lib.hid hcl
 clear hg hv hcur hp hq hr hx h1c h1x hlen hcl
 go_enter Tryz.func133,Tryz.ntmps133
 go_wp2_with (simp only [hov])
 have hw1:IntKind.i64.wrap ((i:Int)+1)=(i:Int)+1:=IntWalk.i64_in _ (by omega)
 have hb1:(0:Int)≤(i:Int)+1:=by omega
 have htn:((i:Int)+1).toNat=i+1:=by omega
 have hb5:(i:Int)+1≤(n:Int)+1:=by omega
 have h0i:(0:Int)≤(i:Int):=by omega
 refine region_still_tail 8 (by kernel_rfl) (by kernel_rfl) ?_
 simp only [List.take_succ_cons,List.take_zero,List.drop_succ_cons,List.drop_zero]
 iterate 8 still_step
 clear hw1 hb1 htn hb5
 refine wpStill_nil ?_
 refine copyK rfl _ _ 41 41 rfl 66 Tryz.underlying41 6 infoSzB g ((i+1)*6) (n-i) (cap-(i+1)) ⟨g,i*6,none⟩ (n+1-i) (cap-i) (by rfl) (by rfl) cur 66 (by have:=HG0.out;exact this) q ?_ ?_ ?_ ?_ w0 (by exact hG.drew) hbg ?_
 ·rw[HPQ.out.2.1]
  congr 1
  simp only [Nat.min_def]
  split<;>omega
 ·intro j v hj
  rw[add_lit]
  refine cells_at HG0.out (i*6+j) v ?_
  rw[HC.out,List.append_assoc,← HPQ.out.1,List.getElem?_append_right (by omega),Nat.add_sub_cancel_left,List.getElem?_append_left (List.getElem?_eq_some_iff.1 hj).1]
  exact hj
 ·have h1:=HPQ.out
  rw[HC.out]
  simp only [List.length_append]
  omega
 ·exact fun v hv=>H1.out.1 v hv
 intro w1 HG1 HW1 HK1
 have hvb1:w1.heap[vb]? = some (.cells xc.toArray 66 (0,0)):=(HK1.out vb hne).trans HV.out
 obtain⟨w2,hrun,hg2,hG2,hk2⟩:=copy_run (P:=Tryz.prog) w1 41 41 66 Tryz.underlying41 6 infoSzB g (i*6) (n+1-i) (cap-i) ⟨vb,0,none⟩ 1 1 _ 66 HG1.out xc (by
   rw[HPQ.out.2.2.2]
   have:Nat.min 1 (n+1-i)=1:=by simp only [Nat.min_def];split<;>omega
   rw[this]) (fun j v hj=>by rw[add_lit,Nat.zero_add];exact cells_at hvb1 j v hj) (by
   have h1:=HPQ.out
   rw[length_splice _ _ _ (by rw[HC.out];simp only [List.length_append];omega),HC.out]
   simp only [List.length_append]
   omega) H1.out.2 w0 HW1.out hbg
 have HFin:RowKit.Hid (w2.ownsRow w0.heap.size 66 6 (.slice (some ⟨g,0,none⟩) (n+1) cap) (n+1) (p++xc++q)):=by
  have h1:=HPQ.out
  have hs:=splice_shift p q r xc (by omega)
  rw[h1.1,h1.2.2.2,← HC.out,show i*6+6=(i+1)*6 by omega] at hs
  refine own_splice hbg hg2 (by omega) (by unfold maxLen;omega) ?_ (by simp only [List.length_append];omega) ⟨_,hs⟩
  rw[length_splice _ _ _ (by rw[length_splice _ _ _ (by rw[HC.out];simp only [List.length_append];omega),HC.out];simp only [List.length_append];omega),length_splice _ _ _ (by rw[HC.out];simp only [List.length_append];omega)]
  exact HCL.out
 have HGR:=Lib.hid (grown_of hG hG2 hg2 (fun b hb=>(hk2 b hb).trans (HK1.out b hb)))
 clear hg2 hG2 hvb1 hk2
 go_wp2
 go_ret
 exact⟨_,rfl,HFin.out,HGR.out,.inl rfl⟩
theorem zerosB (w:World) (g cap n i:Nat) (cur p q:List Value) (hi:i<n) (hnc:n≤cap) (hroom:cap<n+1) (hn:n≤1000000) (hg:w.heap[g]? = some (.cells cur.toArray 66 (0,0))) (hcur:∃ r,cur=p++q++r) (hp:p.length=i*6) :
  ∃(G:Nat) (Z:List Value) (w1:World),(∀ ty,(Builtin.append_ #[41,3] ty #[.slice (some ⟨g,0,none⟩) i cap,.int .i64 ((n:Int)+1-(i:Int))]).run Tryz.prog w=.ok (.slice (some ⟨w.heap.size,0,none⟩) (n+1) G) w1) ∧
   n+1≤G∧G≤maxLen∧w1.heap[w.heap.size]? = some (.cells (p++Z).toArray 66 (0,0))∧(n+1-i)*6≤Z.length∧i*6+Z.length=G*6∧Grew w w1:=by
 obtain⟨i0,hi0,hz0,hz1,hz2⟩:=info_parts cinfoB
 obtain⟨r,hcur⟩:=hcur
 have hkk:(n:Int)+1-(i:Int)=((n+1-i:Nat):Int):=by omega
 have hik:i+(n+1-i)=n+1:=by omega
 have hold:(Builtin.firstCells i0.size i (.slice (some ⟨g,0,none⟩) i cap)).run Tryz.prog w.drew=.ok p.toArray w.drew:=by
  rw[hz1]
  refine run_firstCells_some w.drew 6 i ⟨g,0,none⟩ i cap p hp (fun j v hj=>?_)
  rw[add_lit,Nat.zero_add]
  refine cells_at (w:=w.drew) hg j v ?_
  rw[hcur,List.append_assoc,List.getElem?_append_left (List.getElem?_eq_some_iff.1 hj).1]
  exact hj
 have h:=fun ty=>Lib.run_append_grow_zeros w 41 3 ty 66 i0 _ .i64 .i64 Tryz.underlying41 Tryz.underlying3 hi0 hz0 (some ⟨g,0,none⟩) i cap p hold (n+1-i) (by omega) (by omega) (by omega) (by omega) (by rw[hz2];omega) (by rw[hz2,hik];exact growslice_fits hroom (by omega))
 simp only [hik] at h
 rw[hkk]
 obtain⟨ZC,hZC⟩:∃ ZC,ZC=(Value.agg #[.int .i64 0,.int .i64 0,.int .i64 0,.string ⟨#[]⟩,.string ⟨#[]⟩,.slice none 0 0]).cells:=⟨_,rfl⟩
 have hZs:ZC.size=6:=by rw[hZC];rfl
 rw[← hZC] at h
 refine⟨_,(Builtin.zeroCells ZC (n+1-i)++Builtin.zeroCells ZC (grownCap w (n+1) cap 66-(n+1))).toList,_,h,grownCap_ge w _ _ _,grownCap_le_maxLen w (n+1) cap _ (by unfold maxLen;omega),?_,?_,?_,(Grew.refl w).drew.alloc _⟩
 ·have:=heap_alloc_last w.drew (.cells (p.toArray++Builtin.zeroCells ZC (n+1-i)++Builtin.zeroCells ZC (grownCap w (n+1) cap 66-(n+1))) 66 (0,0))
  rw[show(p++(Builtin.zeroCells ZC (n+1-i)++Builtin.zeroCells ZC (grownCap w (n+1) cap 66-(n+1))).toList).toArray=p.toArray++Builtin.zeroCells ZC (n+1-i)++Builtin.zeroCells ZC (grownCap w (n+1) cap 66-(n+1)) by simp[Array.append_assoc]]
  exact this
 ·simp[Builtin.zeroCells,hZs]
 ·have h9:=grownCap_ge w (n+1) cap 66
  simp only [Builtin.zeroCells,hZs,Array.toList_append,List.length_append,Array.length_toList,Array.size_map,Array.size_range]
  rw[← Nat.add_assoc,← Nat.add_mul,← Nat.add_mul]
  generalize grownCap w (n+1) cap 66=X at h9 ⊢
  rw[show i+(n+1-i)+(X-(n+1))=X by omega]
set_option maxHeartbeats 4000000 in
set_option maxRecDepth 100000 in
theorem insGrowB (w0:World) (g cap n i vb:Nat) (cur p q r xc:List Value) (w:World) (hi:i<n) (hnc:n≤cap) (hroom:cap<n+1) (hn:n≤1000000) (hG:Grew w0 w)
  (hg:w.heap[g]? = some (.cells cur.toArray 66 (0,0))) (hcur:cur=p++q++r) (hp:p.length=i*6) (hq:q.length=(n-i)*6)
  (hv:w.heap[vb]? = some (.cells xc.toArray 66 (0,0))) (hx:xc.length=6) (h1c:∀ v∈q,v.oneCell'=true) (h1x:∀ v∈xc,v.oneCell'=true) :
  Calls Tryz.prog 133 #[.slice (some ⟨g,0,none⟩) n cap,.int .i64 i,.slice (some ⟨vb,0,none⟩) 1 1] w (RetRow3 66 6 (p++xc++q) (n+1) w0.heap.size (.slice (some ⟨g,0,none⟩) n cap) w):=by
 obtain⟨G,Z,w1,hrun1,hG1,hG2,hh1,hZ,hZl,hgr1⟩:=zerosB w g cap n i cur p q hi hnc hroom hn hg ⟨r,hcur⟩ hp
 unfold maxLen at hG2
 have hglt:g<w.heap.size:=(Array.getElem?_eq_some_iff.1 hg).1
 have hvlt:vb<w.heap.size:=(Array.getElem?_eq_some_iff.1 hv).1
 have hv1:w1.heap[vb]? = some (.cells xc.toArray 66 (0,0)):=(hgr1.block vb hvlt).trans hv
 have hg1:w1.heap[g]? = some (.cells cur.toArray 66 (0,0)):=(hgr1.block g hglt).trans hg
 have hmin:Nat.min 1 (n+1-i)=1:=by simp only [Nat.min_def];split<;>omega
 obtain⟨w2,hrun2,hh2,hgr2,hk2⟩:=copy_run (P:=Tryz.prog) w1 41 41 66 Tryz.underlying41 6 infoSzB w.heap.size (i*6) (n+1-i) (G-i) ⟨vb,0,none⟩ 1 1 _ 66 hh1 xc (by rw[hx,hmin]) (fun j v hj=>by rw[add_lit,Nat.zero_add];exact cells_at hv1 j v hj) (by rw[List.length_append,hp,hx];omega) h1x w hgr1 (Nat.le_refl _)
 have hg2:w2.heap[g]? = some (.cells cur.toArray 66 (0,0)):=(hk2 g (by omega)).trans hg1
 have hz1:¬ ((i:Int)=(n:Int)):=by omega
 have hz3:(cap:Int)<(n:Int)+1:=by omega
 have hb2:¬ (G=i+1):=by omega
 have hb3:(i:Int)≤(n:Int)+1:=by omega
 have hb4:¬ (cap=i):=by omega
 have hb5:¬ (G=i):=by omega
 have hin:i≤n:=by omega
 have hin2:(i:Int)≤(n:Int):=by omega
 have HR2:=Lib.hid (show w2.heap[w.heap.size]? = _∧w2.heap[g]? = _∧Grew w w2 from⟨hh2,hg2,hgr2⟩)
 have HC:=Lib.hid hcur
 have HPQ:=Lib.hid (show p.length=i*6∧q.length=(n-i)*6∧xc.length=6∧(n+1-i)*6≤Z.length∧i*6+Z.length=G*6 from⟨hp,hq,hx,hZ,hZl⟩)
 have H1:=Lib.hid (show(∀ v∈q,v.oneCell'=true)∧(∀ v∈xc,v.oneCell'=true) from⟨h1c,h1x⟩)
 clear hg hv hcur hp hq hx h1c h1x hh1 hZ hZl hgr1 hv1 hg1 hmin hh2 hgr2 hk2 hg2 hglt hvlt
 obtain⟨H,hH⟩:∃ H,H=w.heap.size:=⟨_,rfl⟩
 rw[← hH] at HR2 hrun1 hrun2
 have HH:=Lib.hid hH
 clear hH
 go_enter Tryz.func133,Tryz.ntmps133
 go_wp2_with (at_builtin;refine Lib.wpList_append_run _ rfl _ _ _ _ rfl _ _ rfl rfl _ _ (hrun1 _) ?_)
 have hw1:IntKind.i64.wrap ((i:Int)+1)=(i:Int)+1:=IntWalk.i64_in _ (by omega)
 have hb6:(0:Int)≤(i:Int)+1:=by omega
 have htn:((i:Int)+1).toNat=i+1:=by omega
 have hb7:(i:Int)+1≤(n:Int)+1:=by omega
 have h0i:(0:Int)≤(i:Int):=by omega
 refine region_still_tail 8 (by kernel_rfl) (by kernel_rfl) ?_
 simp only [List.take_succ_cons,List.take_zero,List.drop_succ_cons,List.drop_zero]
 iterate 8 still_step
 clear hw1 hb6 htn hb7
 refine wpStill_nil ?_
 refine copyK rfl _ _ 41 41 rfl 66 Tryz.underlying41 6 infoSzB H ((i+1)*6) (n-i) (G-(i+1)) ⟨g,i*6,none⟩ (n-i) (cap-i) (by rfl) (by rfl) _ 66 (by have:=HR2.out.1;exact this) q ?_ ?_ ?_ ?_ w (by exact HR2.out.2.2.drew) (by rw[HH.out];exact Nat.le_refl _) ?_
 ·rw[HPQ.out.2.1]
  congr 1
  simp only [Nat.min_def]
  split<;>omega
 ·intro j v hj
  rw[add_lit]
  refine cells_at (w:=w2.drew) HR2.out.2.1 (i*6+j) v ?_
  rw[HC.out,List.append_assoc,← HPQ.out.1,List.getElem?_append_right (by omega),Nat.add_sub_cancel_left,List.getElem?_append_left (List.getElem?_eq_some_iff.1 hj).1]
  exact hj
 ·have h1:=HPQ.out
  rw[length_splice _ _ _ (by rw[List.length_append];omega),List.length_append]
  omega
 ·exact fun v hv=>H1.out.1 v hv
 intro w3 HG3 HW3 HK3
 have HFin:RowKit.Hid (w3.ownsRow w0.heap.size 66 6 (.slice (some ⟨H,0,none⟩) (n+1) G) (n+1) (p++xc++q)):=by
  have h1:=HPQ.out
  have hs:=splice_new p q Z xc
  rw[h1.1,h1.2.2.1,show i*6+6=(i+1)*6 by omega] at hs
  refine own_splice (by rw[HH.out];exact hG.size) HG3.out (by omega) (by unfold maxLen;omega) ?_ (by simp only [List.length_append];omega) ⟨_,hs⟩
  rw[length_splice _ _ _ (by rw[length_splice _ _ _ (by rw[List.length_append];omega),List.length_append];omega),length_splice _ _ _ (by rw[List.length_append];omega),List.length_append,h1.1]
  exact h1.2.2.2.2
 go_wp2
 go_ret
 exact⟨_,rfl,HFin.out,grown_grew HW3.out _,.inr fun b hb=>by simp[Value.ownBlock] at hb;rw[← hb,HH.out];exact Nat.le_refl _⟩
set_option maxHeartbeats 4000000 in
set_option maxRecDepth 100000 in
theorem insEndB (w0:World) (n vb:Nat) (xs xc:List Value) (v:Value) (w:World) (hown:w.ownsRow w0.heap.size 66 6 v n xs) (hG:Grew w0 w) (hl:n≤1000000)
  (hv:w.heap[vb]? = some (.cells xc.toArray 66 (0,0))) (hx:xc.length=6) (h1x:∀ v∈xc,v.oneCell'=true) :
  Calls Tryz.prog 133 #[v,.int .i64 n,.slice (some ⟨vb,0,none⟩) 1 1] w (RetRow3 66 6 (xs++xc) (n+1) w0.heap.size v w):=by
 obtain⟨i0,hi,hz0,hz1,hz2⟩:=info_parts cinfoB
 have HO:=Lib.hid hown
 have HV:=Lib.hid (fun j u hj=>(by rw[Nat.zero_add];exact cells_at hv j u hj:w.cell? ⟨vb,0+j,none⟩=some u))
 have HX:=Lib.hid (show xc.length=1*6 from hx)
 have H1:=Lib.hid h1x
 have hf:∃(A:Option Addr) (c:Nat),v=.slice A n c∧n≤c∧c≤maxLen∧(A=none→n=0∧c=0):=by
  rcases hown.2 with ⟨rfl,rfl⟩|⟨g,cap,cur,rfl,_,_,h1,h2,_⟩
  ·exact⟨_,_,rfl,Nat.le_refl _,Nat.zero_le _,fun _=>⟨rfl,rfl⟩⟩
  ·exact⟨_,_,rfl,h1,h2,fun h=>by cases h⟩
 obtain⟨A,c,rfl,hnc,hc,hA⟩:=hf
 unfold maxLen at hc
 clear hown hv hx h1x
 cases A with
 | none =>
  obtain⟨rfl,rfl⟩:=hA rfl
  clear hA
  go_enter Tryz.func133,Tryz.ntmps133
  go_wp2_with (at_builtin;refine wpList_append_lies _ rfl _ _ 41 rfl w0.heap.size 66 i0 (.agg #[.int .i64 0,.int .i64 0,.int .i64 0,.string ⟨#[]⟩,.string ⟨#[]⟩,.slice none 0 0]) 6 80 Tryz.underlying41 hi hz0 hz1 hz2 rfl (by omega) _ _ _ (by rfl) HO.out ⟨vb,0,none⟩ 1 1 xc (by rfl) HX.out (fun j u hj=>by rw[add_lit];exact HV.out j u hj) H1.out (by omega) (by unfold maxLen;omega) (by omega) hG.size w.heap.size rfl ?_;intro g3 cap3 w3 hown3 hgr3 hat3 hlt3)
  go_ret
  exact⟨_,rfl,hown3,hgr3,hat3.imp (fun h=>h.symm) (fun h b hb=>by simp[Value.ownBlock] at hb;omega)⟩
 | some a =>
  clear hA
  by_cases hcn:c=n
  ·subst hcn
   go_enter Tryz.func133,Tryz.ntmps133
   go_wp2_with (at_builtin;refine wpList_append_lies _ rfl _ _ 41 rfl w0.heap.size 66 i0 (.agg #[.int .i64 0,.int .i64 0,.int .i64 0,.string ⟨#[]⟩,.string ⟨#[]⟩,.slice none 0 0]) 6 80 Tryz.underlying41 hi hz0 hz1 hz2 rfl (by omega) _ _ _ (by rfl) HO.out ⟨vb,0,none⟩ 1 1 xc (by rfl) HX.out (fun j u hj=>by rw[add_lit];exact HV.out j u hj) H1.out (by omega) (by unfold maxLen;omega) (by omega) hG.size w.heap.size rfl ?_;intro g3 cap3 w3 hown3 hgr3 hat3 hlt3)
   go_ret
   exact⟨_,rfl,hown3,hgr3,hat3.imp (fun h=>h.symm) (fun h b hb=>by simp[Value.ownBlock] at hb;omega)⟩
  ·go_enter Tryz.func133,Tryz.ntmps133
   go_wp2_with (at_builtin;refine wpList_append_lies _ rfl _ _ 41 rfl w0.heap.size 66 i0 (.agg #[.int .i64 0,.int .i64 0,.int .i64 0,.string ⟨#[]⟩,.string ⟨#[]⟩,.slice none 0 0]) 6 80 Tryz.underlying41 hi hz0 hz1 hz2 rfl (by omega) _ _ _ (by rfl) HO.out ⟨vb,0,none⟩ 1 1 xc (by rfl) HX.out (fun j u hj=>by rw[add_lit];exact HV.out j u hj) H1.out (by omega) (by unfold maxLen;omega) (by omega) hG.size w.heap.size rfl ?_;intro g3 cap3 w3 hown3 hgr3 hat3 hlt3)
   go_ret
   exact⟨_,rfl,hown3,hgr3,hat3.imp (fun h=>h.symm) (fun h b hb=>by simp[Value.ownBlock] at hb;omega)⟩
theorem insertB (w0:World) (l:List BrC) (x:BrC) (i vb:Nat) (v:Value) (w:World) (hown:w.ownsRow w0.heap.size 66 6 v l.length (l.flatMap BrC.cells)) (hG:Grew w0 w) (hone:∀ c∈l,c.kv.oneCell'=true) (honx:x.kv.oneCell'=true) (hi:i≤l.length) (hl:l.length≤1000000)
  (hv:w.heap[vb]? = some (.cells x.cells.toArray 66 (0,0))) (hne:some vb≠v.ownBlock) :
  Calls Tryz.prog 133 #[v,.int .i64 i,.slice (some ⟨vb,0,none⟩) 1 1] w (RetRow3 66 6 ((l.take i++[x]++l.drop i).flatMap BrC.cells) (l.length+1) w0.heap.size v w):=by
 have hx1:∀ v∈x.cells,v.oneCell'=true:=fun v hv=>one_cellsB [x] (by simpa using honx) v (by simpa using hv)
 have hxl:x.cells.length=6:=rfl
 obtain⟨ht,hd⟩:=flat_take (f:=BrC.cells) (k:=6) (fun _=>rfl) l i
 have hfl:=flatMap_len BrC.cells 6 (fun _=>rfl) l
 by_cases e:i=l.length
 ·subst e
  have:=insEndB w0 l.length vb (l.flatMap BrC.cells) x.cells v w hown hG hl hv hxl hx1
  simpa [List.flatMap_append] using this
 ·rcases hown.2 with ⟨_,h0⟩|⟨g,cap,cur,rfl,hbg,hh,h1,h2,h3,h4⟩
  ·omega
  have hres:(l.take i++[x]++l.drop i).flatMap BrC.cells=(l.flatMap BrC.cells).take (i*6)++x.cells++(l.flatMap BrC.cells).drop (i*6):=by
   rw[ht,hd];simp[List.flatMap_append]
  have hcur:cur.toList=(l.flatMap BrC.cells).take (i*6)++(l.flatMap BrC.cells).drop (i*6)++cur.toList.drop (l.length*6):=by
   rw[List.take_append_drop,← h4,List.take_append_drop]
  have hh':w.heap[g]? = some (.cells cur.toList.toArray 66 (0,0)):=by simpa using hh
  have hp:((l.flatMap BrC.cells).take (i*6)).length=i*6:=by rw[List.length_take,hfl];omega
  have hq:((l.flatMap BrC.cells).drop (i*6)).length=(l.length-i)*6:=by rw[List.length_drop,hfl];omega
  have hne':vb≠g:=fun h=>hne (by rw[h];rfl)
  have hq1:∀ v∈(l.flatMap BrC.cells).drop (i*6),v.oneCell'=true:=fun v hv=>one_cellsB l hone v (List.mem_of_mem_drop hv)
  rw[hres]
  by_cases hroom:l.length+1≤cap
  ·exact insShiftB w0 g cap l.length i vb _ _ _ _ _ w (by omega) hroom h2 hne' hG hbg hh' hcur hp hq (by rw[List.length_drop,Array.length_toList,h3];omega) (by simpa using h3) hv hxl hq1 hx1
  ·exact insGrowB w0 g cap l.length i vb _ _ _ _ _ w (by omega) h1 (by omega) hl hG hh' hcur hp hq hv hxl hq1 hx1
end Go.Proofs.YtdochkemaiokfaaGreat