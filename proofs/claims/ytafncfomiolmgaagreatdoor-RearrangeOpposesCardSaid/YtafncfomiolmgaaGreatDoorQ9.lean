/- Lemmas on what the functions of the program and of the library compute: RT1, TM1, PlainZ, PlainMv, PlainBl, PlainAp, PlainTg, PlainBk, PlainBm. The conditions stand at each. -/
import Derived.Test.YtafncfomiolmgaaGreatDoorQ8
import Derived.Test.YtafncfomiolmgaaGreatDoorQ3
import Derived.Deep.RegionHeld3
import Derived.Test.YtafncfomiolmgaaGreatDoorQ7
namespace Go.Proofs.YtafncfomiolmgaaGreatDoor
open Go.RowKit
def markedF (l:List Br) (m:ByteArray):Option Br:=if m.toList.isEmpty then none else l.find? fun b=>b.mark.toList == m.toList
def markV (o:Option Br):Value:=.tuple #[.int .i64 (match o with|none=>0|some b=>b.id),.bool o.isSome]
theorem marked_hit {l:List Br} {m:ByteArray} (hm:m.toList.isEmpty=false) {k:Nat} (hk:k<l.length) (hb:∀ j (hj:j<l.length),j<k→(l[j].mark.toList == m.toList)=false) (he:(l[k].mark.toList == m.toList)=true):markedF l m=some l[k]:=by
 unfold markedF
 rw[hm]
 exact List.find?_eq_some_iff_getElem.2 ⟨he,k,hk,rfl,fun j hj=>by simpa using hb j b_37 hj⟩
theorem marked_miss {l:List Br} {m:ByteArray} (hb:∀ j (hj:j<l.length),(l[j].mark.toList == m.toList)=false):markedF l m=none:=by
 unfold markedF
 split
 ·rfl
 ·rw[List.find?_eq_none]
  intro x hx
  obtain⟨j,hj,rfl⟩:=List.mem_iff_getElem.1 hx
  simp[hb j hj]
set_option maxHeartbeats 4000000 in
theorem refMarked (l:List Br) (m:ByteArray) (rv bv:Value) (w:World) (hv:SlBr w bv l):Calls Tryz.prog 100 #[.agg #[rv,bv],.string m] w fun e w'=>e=.returned (markV (markedF l m))∧Grew w w':=by
 obtain⟨A,c,rfl,hlc,hc,hr⟩:=hv.open_
 unfold maxLen at hc
 have HR:=uZ hr
 have GB:=uZ ((uX w).alloc (.cells #[rv,.slice A l.length c] 35))
 by_cases hm:m.toList.isEmpty=true
 ·have hO:markedF l m=none:=by
   unfold markedF
   rw[if_pos hm]
  rw[hO]
  have hee:m.toList=[]:=List.isEmpty_iff.1 hm
  have hem:(!m.toList.isEmpty)=false:=by simp[hm]
  unfold markV
  dsimp only [Option.isSome_none]
  clear hr hv hO
  go_enter Tryz.func100,Tryz.ntmps100
  go_wp2
  go_loop [6] (fun i=>i=.int .i64 0) (fun _=>0)
  case atStart=>rfl
  case round =>
   subst hrel
   by_cases hl:0<l.length
   ·have hlz:(0:Int)<(l.length:Int):=by omega
    go_wp2
    go_ret2
    exact⟨rfl,GB.out⟩
   ·have hlz:¬ (0:Int)<(l.length:Int):=by omega
    go_wp2
    go_ret2
    exact⟨rfl,GB.out⟩
 ·have hmf:m.toList.isEmpty=false:=by simpa using hm
  have hem:(!m.toList.isEmpty)=true:=by simp[hmf]
  have HF1:=uZ (fun k=>@marked_hit l m hmf k)
  have HF2:=uZ (@marked_miss l m)
  generalize markedF l m=O at HF1 HF2 ⊢
  unfold markV
  clear hr hv hm
  go_enter Tryz.func100,Tryz.ntmps100
  go_wp2
  go_loop [6] (fun i=>∃ k:Nat,k≤l.length∧i=.int .i64 k∧Aside (∀ j (hj:j<l.length),j<k→(l[j].mark.toList == m.toList)=false)) (fun i=>l.length-(intOf i).toNat)
  case atStart=>exact⟨0,by omega,rfl,(show Aside _ from fun j h h2=>absurd h2 (Nat.not_lt_zero _))⟩
  case round =>
   obtain⟨k,hk,rfl,M⟩:=hrel
   by_cases hlt:k<l.length
   ·have hltz:(k:Int)<(l.length:Int):=by omega
    have h0z:(0:Int)≤(k:Int):=by omega
    obtain⟨b,off,rfl,hb,hcell⟩:=HR.out b_37
    obtain⟨kv,-,hcl⟩:=hcell k hlt
    obtain⟨c0,-,-,-,c4,-⟩:=hcl _ GB.out
    have HS:=uZ (HF1.out k hlt M.out)
    have HN:RowKit.Hid ((l[k].mark.toList == m.toList)=false→∀ j (hj:j<l.length),j<k+1→(l[j].mark.toList == m.toList)=false):=fun h j hj h2=>by
     exact c_69
    generalize l[k]=y at c0 c4 HS HN
    obtain⟨yi,yp,yl,yt,ym,yk⟩:=y
    dsimp only at c0 c4 HS HN
    clear hcell hcl
    cases he:(ym.toList == m.toList)
    ·have Hy:=uZ (HN.out he)
     clear HS HN M
     exact c_64
    ·have hO:=HS.out he
     subst hO
     clear HS HN M HF1 HF2
     go_wp2
     go_ret2
     exact⟨rfl,GB.out⟩
   ·have hltz:¬ (k:Int)<(l.length:Int):=by omega
    have hO:=HF2.out (fun j hj=>M.out j hj b_37)
    subst hO
    clear HF1 HF2 M
    go_wp2
    go_ret2
    exact⟨rfl,GB.out⟩
end Go.Proofs.YtafncfomiolmgaaGreatDoor
namespace Go.Proofs.YtafncfomiolmgaaGreatDoor
open Go.RowKit
def markP (m:ByteArray) (x:ByteArray):Bool:=!m.toList.isEmpty && (x.toList == m.toList)
def markIdx (l:List Br) (m:ByteArray):Int:=idxP (fun b=>markP m b.mark) l
theorem markIdx_none {l:List Br} {m:ByteArray} (h:markedF l m=none):markIdx l m=-1:=by
 refine idxP_miss _ l (fun i hi=>?_)
 unfold markedF at h
 unfold markP
 by_cases hm:m.toList.isEmpty=true
 ·rw[hm]
  rfl
 ·rw[if_neg hm] at h
  have:=List.find?_eq_none.1 h l[i] (List.getElem_mem hi)
  simp only [Bool.not_eq_true] at this
  rw[this,Bool.and_false]
theorem markIdx_some {l:List Br} {m:ByteArray} {b:Br} (h:markedF l m=some b):∃ k,∃ hk:k<l.length,markIdx l m=(k:Int)∧l[k]=b:=by
 unfold markedF at h
 by_cases hm:m.toList.isEmpty=true
 ·rw[if_pos hm] at h
  cases h
 ·rw[if_neg hm] at h
  have hmf:m.toList.isEmpty=false:=by simpa using hm
  obtain⟨hb,k,hk,e,hbef⟩:=List.find?_eq_some_iff_getElem.1 h
  refine⟨k,hk,idxP_hit _ l k hk (by unfold markP;rw[hmf,e];simpa using hb) (fun i hi hik=>?_),e⟩
  have:=hbef i hik
  unfold markP
  rw[hmf]
  simpa using this
set_option maxHeartbeats 2000000 in
theorem tMarked1 (B:Nat) (m:ByteArray) (x:BrC) (W:World) (h0:W.cell? ⟨B,0,none⟩=some (.string m)) :
  Calls Tryz.prog 171 (#[x.agg] ++ #[.pointer (some ⟨B,0,none⟩)]) W fun e w'=>e=.returned (.bool (markP m x.mark))∧Grew W w':=by
 have hB:=World.block_lt_of_cell? W _ h0
 unfold BrC.agg markP
 cases hm:m.toList.isEmpty with
 | true =>
  have hee:m.toList=[]:=List.isEmpty_iff.1 hm
  have hem:(!m.toList.isEmpty)=false:=by simp[hm]
  go_enter Tryz.func171,Tryz.ntmps171
  go_wp2
  go_ret
  exact⟨by simp,by first|exact(uX W).alloc _|exact((uX W).alloc _).drew⟩
 | false =>
  have hem:(!m.toList.isEmpty)=true:=by simp[hm]
  go_enter Tryz.func171,Tryz.ntmps171
  go_wp2
  go_ret
  exact⟨by simp,by first|exact(uX W).alloc _|exact((uX W).alloc _).drew⟩
theorem enters_tMarked1:∀ args w,(callFunc 171 args).run Tryz.prog w=.ok (.enter 171 args) w:=enters_of Tryz.func171 (by kernel_rfl) rfl
set_option maxHeartbeats 2000000 in
theorem tMarked (l:List Br) (m:ByteArray) (rv bv:Value) (w:World) (hv:SlBr w bv l):Calls Tryz.prog 134 #[.agg #[rv,bv],.string m] w fun e w'=>e=.returned (markV (markedF l m))∧Grew w w':=by
 obtain⟨A,c,rfl,hlc,hc,hr⟩:=hv.open_
 unfold maxLen at hc
 have HR:=uZ hr
 obtain⟨cs,h1,h2,h3⟩:=hv
 have he:markIdx l m=idxP (fun c:BrC=>markP m c.mark) cs:=(idxP_rel cs l h2 (fun i h h'=>by
  have:=congrArg BrC.mark (h3 i h h').1
  simp only [Br.c] at this
  rw[this])).symm
 have hix:=indexFuncB cs (fun c=>markP m c.mark) _ _ enters_tMarked1 (.slice A l.length c) ((w.alloc (.cells #[rv,.slice A l.length c] 35)).alloc (.cells #[.string m] 9)) (h1.mono (((uX w).alloc _).alloc _)) (fun W x hW _=>tMarked1 (w.heap.size+1) m x W (by
  have:=yQ (cs:=[.string m]) hW 0 _ rfl
  simpa using this))
 rw[← he] at hix
 have HG0:=uZ (((uX w).alloc (.cells #[rv,.slice A l.length c] 35)).alloc (.cells #[.string m] 9))
 clear h1 h3 he hr
 cases hO:markedF l m with
 | none =>
  rw[markIdx_none hO] at hix
  have HX:=uZ hix
  unfold markV
  dsimp only [Option.isSome_none]
  clear hix hO
  go_enter Tryz.func134,Tryz.ntmps134
  go_wp2_with fail
  refine HX.out.mono ?_
  rintro e w1 ⟨rfl,g1⟩
  dsimp only
  go_wp2
  go_ret2
  exact⟨rfl,HG0.out.trans g1⟩
 | some b =>
  obtain⟨k,hk,ek,eb⟩:=markIdx_some hO
  rw[ek] at hix
  have HX:=uZ hix
  unfold markV
  dsimp only [Option.isSome_some]
  obtain⟨bb,off,rfl,hbk,hcell⟩:=HR.out b_37
  obtain⟨kv,-,hcl⟩:=hcell k hk
  have HC:=uZ (fun W (hW:Grew w W)=>(hcl W hW).1)
  rw[eb] at HC
  have hkz:(k:Int)<(l.length:Int):=by omega
  have h0z:(0:Int)≤(k:Int):=by omega
  clear hix hO ek eb hcell hcl
  go_enter Tryz.func134,Tryz.ntmps134
  go_wp2_with fail
  refine HX.out.mono ?_
  rintro e w1 ⟨rfl,g1⟩
  have HG1:=uZ (HG0.out.trans g1)
  have c0:=HC.out w1 HG1.out
  have t0:=uQ g1 (uQ ((uX _).alloc (.cells #[.string m] 9)) (yQ (uX (w.alloc (.cells [rv,.slice (some ⟨bb,off,none⟩) l.length c].toArray 35))) 1 _ rfl))
  clear g1
  dsimp only
  go_wp2
  go_ret2
  exact⟨rfl,HG1.out⟩
end Go.Proofs.YtafncfomiolmgaaGreatDoor
namespace Go.Proofs.YtafncfomiolmgaaGreatDoor
open Go.RowKit
set_option maxRecDepth 100000 in
theorem c_65 {p:Prop} (h:p:=by
 rcases (placed_mem hC.asc u).1 (hC.placed u hu) with ⟨h1,_⟩|⟨_,p,hpm,h2,_⟩
 ·exact .inl h1
 ·exact .inr ⟨p,hpm,h2⟩):p:=h
theorem mem_without (n x:Int) (l:List Int):x∈withoutF n l↔x∈l∧x≠n:=by
 unfold withoutF
 simp
theorem nodup_without (n:Int) {l:List Int} (h:l.Nodup):(withoutF n l).Nodup:=List.Pairwise.filter _ h
theorem kids_without {t:Tr} (h:SoundM t) {u:Br} (hu:u∈t.brs) (q:Int) (hq:q=0∨∃ b∈t.brs,b.id=q):∀ x,x∈childs (setK t u.parent (withoutF u.id (childs t u.parent))) q↔x∈childs t q∧x≠u.id:=by
 obtain⟨hC,hK⟩:=(sound_parts t).1 h
 have hp:u.parent=0∨∃ b∈t.brs,b.id=u.parent:=by
  exact c_65
 intro x
 rw[setK_childs _ _ q hp]
 by_cases hqp:q=u.parent
 ·rw[if_pos hqp,mem_without,hqp]
 ·rw[if_neg hqp]
  refine⟨fun hx=>⟨hx,fun e=>?_⟩,fun hx=>hx.1⟩
  obtain⟨b,hb,h1,h2⟩:=((hK q hq).2 x).1 hx
  have:=asc_same hC.asc hb hu (by rw[h2];exact e)
  subst this
  exact hqp h1.symm
theorem nodup_kids {t:Tr} (h:SoundM t) {u:Br} (hu:u∈t.brs) (q:Int) (hq:q=0∨∃ b∈t.brs,b.id=q):(childs (setK t u.parent (withoutF u.id (childs t u.parent))) q).Nodup:=by
 obtain⟨hC,hK⟩:=(sound_parts t).1 h
 have hp:u.parent=0∨∃ b∈t.brs,b.id=u.parent:=by
  exact c_65
 rw[setK_childs _ _ q hp]
 by_cases hqp:q=u.parent
 ·rw[if_pos hqp]
  exact nodup_without _ (hK _ hp).1
 ·rw[if_neg hqp]
  exact(hK q hq).1
theorem remove_sound {t:Tr} {o:Opn} {u:Br} (h:SoundM t) (hu:u∈t.brs) (hid:u.id=o.unit) (hk:u.kids=[]):SoundM (removeT t o u):=by
 obtain⟨hC,hK⟩:=(sound_parts t).1 h
 have hu0:u.id≠0:=unit_pos (hC.units u hu)
 have hw:=kids_without h hu
 have hnd:=nodup_kids h hu
 have hT:=setK_core u.parent (withoutF u.id (childs t u.parent)) hC
 have hids:=setK_ids t u.parent (withoutF u.id (childs t u.parent))
 have hkd:=setK_kids t u.parent (withoutF u.id (childs t u.parent))
 have hno:∀ x,¬ ∃ c∈(setK t u.parent (withoutF u.id (childs t u.parent))).brs,c.parent=u.id∧c.id=x:=by
  have hku:=hK u.id (.inr ⟨u,hu,rfl⟩)
  rw[childs_of hC.asc hu hu0,hk] at hku
  have h2:=(hkd [] u.id).2 hku
  intro x hx
  have:=(h2.2 x).2 hx
  cases this
 unfold removeT
 rw[← hid]
 generalize setK t u.parent (withoutF u.id (childs t u.parent))=t1 at hw hnd hT hids hkd hno ⊢
 have hfil:∀ c,c∈t1.brs.filter (fun b=>!(b.id == u.id))↔c∈t1.brs∧c.id≠u.id:=fun c=>by simp
 have hasc:idsAsc (t1.brs.filter fun b=>!(b.id == u.id)):=List.Pairwise.filter _ hT.asc
 have hpar:∀ c∈t1.brs,c.parent≠u.id:=fun c hc e=>hno c.id ⟨c,hc,e,rfl⟩
 rw[sound_parts]
 refine⟨⟨Nat.le_trans (List.length_filter_le _ _) hT.len,hasc,fun c hc=>hT.units c ((hfil c).1 hc).1,fun c hc d hd=>hT.marks c ((hfil c).1 hc).1 d ((hfil d).1 hd).1,fun c hc=>?_,?_⟩,fun q hq=>?_⟩
 ·have hc1:=(hfil c).1 hc
  rw[placed_mem hasc]
  rcases (placed_mem hT.asc c).1 (hT.placed c hc1.1) with h1|⟨h1,p,hp,h2,h3⟩
  ·exact .inl h1
  ·exact .inr ⟨h1,p,(hfil p).2 ⟨hp,by rw[h2];exact hpar c hc1.1⟩,h2,h3⟩
 ·obtain⟨r,hr⟩:=hT.rank
  exact⟨r,fun c hc=>hr c ((hfil c).1 hc).1⟩
 ·have hqu:q≠u.id:=by
   rcases hq with h1|⟨c,hc,e⟩
   ·rw[h1];exact fun e=>hu0 e.symm
   ·rw[← e];exact((hfil c).1 hc).2
  have hq1:q=0∨∃ b∈t.brs,b.id=q:=by
   rcases hq with h1|⟨c,hc,e⟩
   ·exact .inl h1
   ·exact .inr ((hids q).1 ⟨c,((hfil c).1 hc).1,e⟩)
  have hch:childs ⟨t1.roots,t1.brs.filter fun b=>!(b.id == u.id)⟩ q=childs t1 q:=by
   unfold childs
   split
   ·rfl
   ·show(match brFind (t1.brs.filter fun b=>!(b.id == u.id)) q with
     | none=>[]
     | some b=>b.kids)=_
    cases hf:brFind t1.brs q with
    | none=>rw[(find_none q).2 (fun c hc=>(find_none q).1 hf c ((hfil c).1 hc).1)]
    | some b =>
     have hb:=find_in hf
     rw[(find_iff hasc q b).2 ⟨(hfil b).2 ⟨hb.1,by rw[hb.2];exact hqu⟩,hb.2⟩]
  rw[hch]
  refine⟨hnd q hq1,fun x=>?_⟩
  rw[hw q hq1,((hkd _ q).2 (hK q hq1)).2 x]
  constructor
  ·rintro ⟨⟨c,hc,h1,h2⟩,hx⟩
   exact⟨c,(hfil c).2 ⟨hc,by rw[h2];exact hx⟩,h1,h2⟩
  ·rintro ⟨c,hc,h1,h2⟩
   have hc1:=(hfil c).1 hc
   exact⟨⟨c,hc1.1,h1,h2⟩,by rw[← h2];exact hc1.2⟩
theorem label_sound {t:Tr} (h:SoundM t) (n:Int) (f:Br→Br) (hf:∀ b,(f b).id=b.id∧(f b).parent=b.parent∧(f b).level=b.level∧(f b).kids=b.kids) (hu:∀ b∈t.brs,b.id=n→UnitOk (f b))
  (hm:∀ b∈t.brs,b.id=n→∀ c∈t.brs,c.id≠n→(f b).mark.toList.isEmpty=false→(f b).mark.toList≠c.mark.toList):SoundM (setU t n f):=by
 obtain⟨hC,hK⟩:=(sound_parts t).1 h
 have e1:∀ b,(if b.id=n then f b else b).id=b.id:=fun b=>by split<;>simp[hf]
 have e2:∀ b,(if b.id=n then f b else b).parent=b.parent:=fun b=>by split<;>simp[hf]
 have e3:∀ b,(if b.id=n then f b else b).level=b.level:=fun b=>by split<;>simp[hf]
 have e4:∀ b,(if b.id=n then f b else b).kids=b.kids:=fun b=>by split<;>simp[hf]
 have hasc:idsAsc (t.brs.map fun b=>if b.id=n then f b else b):=List.Pairwise.map _ (fun a b hab=>by rw[e1,e1];exact hab) hC.asc
 rw[sound_parts]
 unfold setU
 refine⟨⟨by rw[List.length_map];exact hC.len,hasc,fun c hc=>?_,fun c hc d hd hne he=>?_,fun c hc=>?_,?_⟩,fun q hq=>?_⟩
 ·obtain⟨b,hb,rfl⟩:=List.mem_map.1 hc
  by_cases hbn:b.id=n
  ·rw[if_pos hbn];exact hu b hb hbn
  ·rw[if_neg hbn];exact hC.units b hb
 ·obtain⟨b,hb,rfl⟩:=List.mem_map.1 hc
  obtain⟨b2,hb2,rfl⟩:=List.mem_map.1 hd
  rw[e1,e1]
  by_cases hbn:b.id=n<;>by_cases hbn2:b2.id=n
  ·rw[hbn,hbn2]
  ·rw[if_pos hbn] at hne he
   rw[if_neg hbn2] at he
   exact absurd he (hm b hb hbn b2 hb2 hbn2 hne)
  ·rw[if_neg hbn] at hne he
   rw[if_pos hbn2] at he
   exact absurd he.symm (hm b2 hb2 hbn2 b hb hbn (by rw[← he];exact hne))
  ·rw[if_neg hbn] at hne he
   rw[if_neg hbn2] at he
   exact hC.marks b hb b2 hb2 hne he
 ·obtain⟨b,hb,rfl⟩:=List.mem_map.1 hc
  rw[placed_mem hasc,e2,e3]
  rcases (placed_mem hC.asc b).1 (hC.placed b hb) with h1|⟨h1,p,hp,h2,h3⟩
  ·exact .inl h1
  ·exact .inr ⟨h1,_,List.mem_map.2 ⟨p,hp,rfl⟩,by rw[e1];exact h2,by rw[e3];exact h3⟩
 ·obtain⟨r,hr⟩:=hC.rank
  refine⟨r,fun c hc=>?_⟩
  obtain⟨b,hb,rfl⟩:=List.mem_map.1 hc
  rw[e1,e2]
  exact hr b hb
 ·have hq1:q=0∨∃ b∈t.brs,b.id=q:=by
   rcases hq with h1|⟨c,hc,e⟩
   ·exact .inl h1
   ·obtain⟨b,hb,rfl⟩:=List.mem_map.1 hc
    exact .inr ⟨b,hb,by rw[← e,e1]⟩
  have hch:childs ⟨t.roots,t.brs.map fun b=>if b.id=n then f b else b⟩ q=childs t q:=by
   unfold childs
   split
   ·rfl
   ·show(match brFind (t.brs.map fun b=>if b.id=n then f b else b) q with
     | none=>[]
     | some b=>b.kids)=_
    rw[find_map _ e1]
    cases brFind t.brs q with
    | none=>rfl
    | some b=>exact e4 b
  rw[hch]
  refine⟨(hK q hq1).1,fun x=>?_⟩
  rw[(hK q hq1).2 x]
  constructor
  ·rintro ⟨c,hc,h1,h2⟩
   exact⟨_,List.mem_map.2 ⟨c,hc,rfl⟩,by rw[e2];exact h1,by rw[e1];exact h2⟩
  ·rintro ⟨c,hc,h1,h2⟩
   obtain⟨b,hb,rfl⟩:=List.mem_map.1 hc
   exact⟨b,hb,by rw[← h1,e2],by rw[← h2,e1]⟩
end Go.Proofs.YtafncfomiolmgaaGreatDoor
namespace Go.Proofs.YtafncfomiolmgaaGreatDoor
open Go.RowKit
inductive UnderT (l:List Br) (n:Int):Int→Prop
 | self:UnderT l n n
 | step {b:Br}:b∈l→b.parent≠0→UnderT l n b.parent→UnderT l n b.id
theorem under_parent {l:List Br} (h:idsAsc l) {n:Int} {b:Br} (hb:b∈l) (hne:b.id≠n) (hu:UnderT l n b.id):b.parent≠0∧UnderT l n b.parent:=by
 generalize hx:b.id=x at hu
 cases hu with
 | self=>exact absurd hx hne
 | @step c hc hp hu =>
  have:=asc_same h hb hc hx
  subst this
  exact⟨hp,hu⟩
structure CanMove (t:Tr) (o:Opn) (u:Br):Prop where
 mem:u∈t.brs
 id:u.id=o.unit
 stands:StandsT t.brs o.parent u.level
 notBelow:¬ UnderT t.brs o.unit o.parent
 before:o.before≠0→o.before∈withoutF o.unit (childs t o.parent)
theorem without_no {n:Int} {l:List Int} (h:n∉l):withoutF n l=l:=by
 unfold withoutF
 rw[List.filter_eq_self]
 intro x hx
 simp
 rintro rfl
 exact h hx
theorem childs_taken {t:Tr} (h:SoundM t) {u:Br} (hu:u∈t.brs) (q:Int) (hq:q=0∨∃ b∈t.brs,b.id=q):childs (setK t u.parent (withoutF u.id (childs t u.parent))) q=withoutF u.id (childs t q):=by
 obtain⟨hC,hK⟩:=(sound_parts t).1 h
 have hp:u.parent=0∨∃ b∈t.brs,b.id=u.parent:=by
  exact c_65
 rw[setK_childs _ _ q hp]
 by_cases hqp:q=u.parent
 ·rw[if_pos hqp,hqp]
 ·rw[if_neg hqp,without_no]
  intro hm
  obtain⟨b,hb,h1,h2⟩:=((hK q hq).2 u.id).1 hm
  have:=asc_same hC.asc hb hu h2
  subst this
  exact hqp h1.symm
theorem move_sound {t:Tr} {o:Opn} {u:Br} (h:SoundM t) (hc:CanMove t o u):SoundM (moveT t o u):=by
 obtain⟨hC,hK⟩:=(sound_parts t).1 h
 have hu:=hc.mem
 have hu0:u.id≠0:=unit_pos (hC.units u hu)
 have hp:o.parent=0∨∃ b∈t.brs,b.id=o.parent:=by
  rcases hc.stands with ⟨h1,_⟩|⟨_,q,hq,h2,_⟩
  ·exact .inl h1
  ·exact .inr ⟨q,hq,h2⟩
 have htk:=childs_taken h hu
 have hT1:=setK_core u.parent (withoutF u.id (childs t u.parent)) hC
 have hids1:=setK_ids t u.parent (withoutF u.id (childs t u.parent))
 have hkd1:=setK_kids t u.parent (withoutF u.id (childs t u.parent))
 have hbr1:=setK_brs t u.parent (withoutF u.id (childs t u.parent))
 unfold moveT
 rw[← hc.id]
 generalize setK t u.parent (withoutF u.id (childs t u.parent))=t1 at htk hT1 hids1 hkd1 hbr1 ⊢
 have hp1:o.parent=0∨∃ b∈t1.brs,b.id=o.parent:=by
  rcases hp with h1|h1
  ·exact .inl h1
  ·exact .inr ((hids1 _).2 h1)
 have hT2:=setK_core o.parent (putF u.id o.before (childs t1 o.parent)) hT1
 have hids2:=setK_ids t1 o.parent (putF u.id o.before (childs t1 o.parent))
 have hkd2:=setK_kids t1 o.parent (putF u.id o.before (childs t1 o.parent))
 have hch2:=fun q=>setK_childs (t:=t1) o.parent (putF u.id o.before (childs t1 o.parent)) q hp1
 have hbr2:=setK_brs t1 o.parent (putF u.id o.before (childs t1 o.parent))
 simp only
 generalize setK t1 o.parent (putF u.id o.before (childs t1 o.parent))=t2 at hT2 hids2 hkd2 hch2 hbr2 ⊢
 -- the units of the three trees are the same but for their children
 have hm12:∀(l:List Br) (p:Int) (ks:List Int) (m:List Br),m=(if p=0 then l else l.map (kidG p ks))→(∀ c∈m,∃ d∈l,core c=core d)∧∀ d∈l,∃ c∈m,core c=core d:=by
  rintro l p ks m rfl
  split
  ·exact⟨fun c hc=>⟨c,hc,rfl⟩,fun d hd=>⟨d,hd,rfl⟩⟩
  ·refine⟨fun c hc=>?_,fun d hd=>⟨_,List.mem_map.2 ⟨d,hd,rfl⟩,kidG_core _ _ d⟩⟩
   obtain⟨d,hd,rfl⟩:=List.mem_map.1 hc
   exact⟨d,hd,kidG_core _ _ d⟩
 have hm1:=hm12 _ _ _ _ hbr1
 have hm2:=hm12 _ _ _ _ hbr2
 have down:∀ c∈t2.brs,∃ d∈t.brs,core c=core d:=fun c hcm=>by
  obtain⟨d,hd,e⟩:=hm2.1 c hcm
  obtain⟨d2,hd2,e2⟩:=hm1.1 d hd
  exact⟨d2,hd2,e.trans e2⟩
 have up:∀ d∈t.brs,∃ c∈t2.brs,core c=core d:=fun d hd=>by
  obtain⟨c,hcm,e⟩:=hm1.2 d hd
  obtain⟨c2,hc2,e2⟩:=hm2.2 c hcm
  exact⟨c2,hc2,e2.trans e⟩
 clear hm12 hbr1 hbr2
 have e1:∀ b:Br,(if b.id=u.id then { b with parent:=o.parent } else b).id=b.id:=fun b=>by split<;>rfl
 have e3:∀ b:Br,(if b.id=u.id then { b with parent:=o.parent } else b).level=b.level:=fun b=>by split<;>rfl
 have e4:∀ b:Br,(if b.id=u.id then { b with parent:=o.parent } else b).kids=b.kids:=fun b=>by split<;>rfl
 have e5:∀ b:Br,(if b.id=u.id then { b with parent:=o.parent } else b).title=b.title:=fun b=>by split<;>rfl
 have e6:∀ b:Br,(if b.id=u.id then { b with parent:=o.parent } else b).mark=b.mark:=fun b=>by split<;>rfl
 have hasc:idsAsc (t2.brs.map fun b=>if b.id=u.id then { b with parent:=o.parent } else b):=List.Pairwise.map _ (fun a b hab=>by rw[e1,e1];exact hab) hT2.asc
 rw[sound_parts]
 unfold setU
 refine⟨⟨by rw[List.length_map];exact hT2.len,hasc,fun c hcm=>?_,fun c hcm d hdm hne he=>?_,fun c hcm=>?_,?_⟩,fun q hq=>?_⟩
 ·obtain⟨b,hb,rfl⟩:=List.mem_map.1 hcm
  have:=hT2.units b hb
  unfold UnitOk at this ⊢
  rw[e1,e3,e5,e6]
  exact this
 ·obtain⟨b,hb,rfl⟩:=List.mem_map.1 hcm
  obtain⟨b2,hb2,rfl⟩:=List.mem_map.1 hdm
  rw[e6] at hne he
  rw[e6] at he
  rw[e1,e1]
  exact hT2.marks b hb b2 hb2 hne he
 ·obtain⟨b,hb,rfl⟩:=List.mem_map.1 hcm
  rw[placed_mem hasc,e3]
  have hst:∀ p lv,StandsT t2.brs p lv→(p=0∧lv=1)∨(p≠0∧∃ q∈t2.brs.map (fun b=>if b.id=u.id then { b with parent:=o.parent } else b),q.id=p∧fitsF q.level lv=true):=by
   rintro p lv (h1|⟨h1,q,hq,h2,h3⟩)
   ·exact .inl h1
   ·exact .inr ⟨h1,_,List.mem_map.2 ⟨q,hq,rfl⟩,by rw[e1];exact h2,by rw[e3];exact h3⟩
  by_cases hbu:b.id=u.id
  ·rw[if_pos hbu]
   refine hst _ _ ?_
   have hl:b.level=u.level:=by
    obtain⟨d,hd,e⟩:=down b hb
    have:=asc_same hC.asc hd hu (by rw[← (core_all e).1];exact hbu)
    rw[(core_all e).2.2.1,this]
   rw[hl]
   rcases hc.stands with h1|⟨h1,q,hq,h2,h3⟩
   ·exact .inl h1
   ·obtain⟨c,hcm2,e⟩:=up q hq
    exact .inr ⟨h1,c,hcm2,by rw[(core_all e).1];exact h2,by rw[(core_all e).2.2.1];exact h3⟩
  ·rw[if_neg hbu]
   exact hst _ _ ((placed_mem hT2.asc b).1 (hT2.placed b hb))
 ·obtain⟨r,hr⟩:=hC.rank
  classical
  refine⟨fun x=>if UnderT t.brs u.id x then r x+(r o.parent+1) else r x,fun c hcm hpn=>?_⟩
  obtain⟨b,hb,rfl⟩:=List.mem_map.1 hcm
  obtain⟨d,hd,e⟩:=down b hb
  have hid:=(core_all e).1
  have hpar:=(core_all e).2.1
  rw[e1]
  by_cases hbu:b.id=u.id
  ·rw[if_pos hbu] at hpn ⊢
   simp only
   rw[hbu,if_neg (by rw[hc.id];exact hc.notBelow),if_pos UnderT.self]
   omega
  ·rw[if_neg hbu] at hpn ⊢
   have hlt:=hr d hd (by rw[← hpar];exact hpn)
   rw[← hpar,← hid] at hlt
   have hiff:UnderT t.brs u.id b.id↔UnderT t.brs u.id b.parent:=by
    rw[hid,hpar]
    constructor
    ·exact fun hx=>(under_parent hC.asc hd (by rw[← hid];exact hbu) hx).2
    ·exact fun hx=>UnderT.step hd (by rw[← hpar];exact hpn) hx
   simp only
   by_cases hx:UnderT t.brs u.id b.parent
   ·rw[if_pos hx,if_pos (hiff.2 hx)]
    omega
   ·rw[if_neg hx,if_neg (fun h=>hx (hiff.1 h))]
    exact hlt
 ·have hq1:q=0∨∃ b∈t.brs,b.id=q:=by
   rcases hq with h1|⟨c,hcm,e⟩
   ·exact .inl h1
   ·obtain⟨b,hb,rfl⟩:=List.mem_map.1 hcm
    obtain⟨d,hd,e2⟩:=down b hb
    exact .inr ⟨d,hd,by rw[← (core_all e2).1,← e,e1]⟩
  have hch:childs ⟨t2.roots,t2.brs.map fun b=>if b.id=u.id then { b with parent:=o.parent } else b⟩ q=childs t2 q:=by
   unfold childs
   split
   ·rfl
   ·show(match brFind (t2.brs.map fun b=>if b.id=u.id then { b with parent:=o.parent } else b) q with
     | none=>[]
     | some b=>b.kids)=_
    rw[find_map _ e1]
    cases brFind t2.brs q with
    | none=>rfl
    | some b=>exact e4 b
  have hKq:=hK q hq1
  have hset:∀ x,(∃ c∈t2.brs.map (fun b=>if b.id=u.id then { b with parent:=o.parent } else b),c.parent=q∧c.id=x)↔(x=u.id∧o.parent=q)∨(x≠u.id∧x∈childs t q):=by
   intro x
   rw[hKq.2 x]
   constructor
   ·rintro ⟨c,hcm,h1,h2⟩
    obtain⟨b,hb,rfl⟩:=List.mem_map.1 hcm
    rw[e1] at h2
    by_cases hbu:b.id=u.id
    ·rw[if_pos hbu] at h1
     exact .inl ⟨by rw[← h2];exact hbu,h1⟩
    ·rw[if_neg hbu] at h1
     obtain⟨d,hd,e⟩:=down b hb
     exact .inr ⟨by rw[← h2];exact hbu,d,hd,by rw[← (core_all e).2.1];exact h1,by rw[← (core_all e).1];exact h2⟩
   ·rintro (⟨h1,h2⟩|⟨h1,d,hd,h2,h3⟩)
    ·obtain⟨c,hcm,e⟩:=up u hu
     refine⟨_,List.mem_map.2 ⟨c,hcm,rfl⟩,?_,by rw[e1,(core_all e).1];exact h1.symm⟩
     rw[if_pos (core_all e).1]
     exact h2
    ·obtain⟨c,hcm,e⟩:=up d hd
     have hcu:c.id≠u.id:=by rw[(core_all e).1,h3];exact h1
     refine⟨_,List.mem_map.2 ⟨c,hcm,rfl⟩,?_,by rw[e1,(core_all e).1];exact h3⟩
     rw[if_neg hcu,(core_all e).2.1]
     exact h2
  have h00:(0:Int)∉childs t1 o.parent:=fun hm=>by
   rw[htk o.parent hp,mem_without] at hm
   obtain⟨b,hb,_,e⟩:=((hK _ hp).2 0).1 hm.1
   exact unit_pos (hC.units b hb) e
  have hbf:o.before≠0→o.before∈childs t1 o.parent:=fun hb=>by
   rw[htk o.parent hp,hc.id]
   exact hc.before hb
  have hnu:u.id∉childs t1 o.parent:=fun hm=>by
   rw[htk o.parent hp,mem_without] at hm
   exact hm.2 rfl
  have hnd1:(childs t1 o.parent).Nodup:=by
   rw[htk o.parent hp]
   exact nodup_without _ (hK _ hp).1
  rw[hch,hch2 q]
  unfold KidsAre
  simp only [hset]
  by_cases hqp:q=o.parent
  ·rw[if_pos hqp]
   refine⟨nodup_putF (fun _=>h00) hbf hnd1 hnu,fun x=>?_⟩
   rw[mem_putF (fun _=>h00) hbf,htk o.parent hp,mem_without,← hqp]
   constructor
   ·rintro (h1|⟨h1,h2⟩)
    ·exact .inl ⟨h1,rfl⟩
    ·exact .inr ⟨h2,h1⟩
   ·rintro (⟨h1,_⟩|⟨h1,h2⟩)
    ·exact .inl h1
    ·exact .inr ⟨h2,h1⟩
  ·rw[if_neg hqp,htk q hq1]
   refine⟨nodup_without _ hKq.1,fun x=>?_⟩
   rw[mem_without]
   constructor
   ·rintro ⟨h1,h2⟩
    exact .inr ⟨h2,h1⟩
   ·rintro (⟨_,h2⟩|⟨h1,h2⟩)
    ·exact absurd h2.symm hqp
    ·exact⟨h2,h1⟩
end Go.Proofs.YtafncfomiolmgaaGreatDoor
namespace Go.Proofs.YtafncfomiolmgaaGreatDoor
open Go.RowKit
def belowL (t:Tr):Nat→Int→List Int
 | 0,n=>[n]
 | f+1,n=>n::(childs t n).flatMap (belowL t f)
def belowT (t:Tr) (n:Int):List Int:=if n=0 then t.roots.flatMap (belowL t t.brs.length) else belowL t t.brs.length n
theorem under_trans {l:List Br} {a b c:Int} (h1:UnderT l a b) (h2:UnderT l b c):UnderT l a c:=by
 induction h2 with
 | self=>exact h1
 | step hb hp _ ih=>exact UnderT.step hb hp ih
theorem childs_mem {t:Tr} (h:SoundM t) {n x:Int} (hn:n=0∨∃ b∈t.brs,b.id=n):x∈childs t n↔∃ c∈t.brs,c.parent=n∧c.id=x :=
 ((sound_parts t).1 h |>.2 n hn).2 x
theorem under_first {t:Tr} (h:SoundM t) {n x:Int} (hni:∃ b∈t.brs,b.id=n) (hu:UnderT t.brs n x):x=n∨∃ k∈childs t n,UnderT t.brs k x:=by
 induction hu with
 | self=>exact .inl rfl
 | @step b hb hp _ ih =>
  rcases ih with e|⟨k,hk,hu⟩
  ·exact .inr ⟨b.id,(childs_mem h (.inr hni)).2 ⟨b,hb,e,rfl⟩,UnderT.self⟩
  ·exact .inr ⟨k,hk,UnderT.step hb hp hu⟩
theorem deep_child {t:Tr} (h:SoundM t) {b c:Br} {d:Nat} (hb:b∈t.brs) (hc:c∈t.brs) (hp:c.parent=b.id) (hd:deep t.brs t.brs.length b=some d):deep t.brs t.brs.length c=some (d+1):=by
 have hb0:=unit_pos (h.units b hb)
 have h1:deep t.brs (t.brs.length+1) c=some (d+1):=by
  unfold deep
  rw[if_neg (by rw[hp];exact hb0),hp,find_byid h.asc hb]
  show(deep t.brs t.brs.length b).map (· + 1)=_
  rw[hd]
  rfl
 exact(deep_mono _ c _ h1).2 _ (by have:=deep_le h.asc hc h1;omega)
theorem deep_some {t:Tr} (h:SoundM t) {b:Br} (hb:b∈t.brs):∃ d,deep t.brs t.brs.length b=some d∧d≤t.brs.length:=by
 have h2:=(sound_iff t).2 h
 have:=(all_mem (P:=fun b=>(deep t.brs t.brs.length b).isSome=true)).1 h2.2.2.2.2.2 b hb
 obtain⟨d,hd⟩:=Option.isSome_iff_exists.1 this
 exact⟨d,hd,deep_le h.asc hb hd⟩
theorem mem_belowL {t:Tr} (h:SoundM t):∀(f:Nat) (b:Br) (d:Nat),b∈t.brs→deep t.brs t.brs.length b=some d→t.brs.length≤f+d→∀ x,x∈belowL t f b.id↔UnderT t.brs b.id x:=by
 intro f
 induction f with
 | zero =>
  intro b d hb hd hf x
  unfold belowL
  rw[List.mem_singleton]
  constructor
  ·rintro rfl;exact UnderT.self
  ·intro hu
   rcases under_first h ⟨b,hb,rfl⟩ hu with e|⟨k,hk,_⟩
   ·exact e
   ·exfalso
    obtain⟨c,hc,hp,_⟩:=(childs_mem h (.inr ⟨b,hb,rfl⟩)).1 hk
    have h1:=deep_child h hb hc hp hd
    have h2:=deep_le h.asc hc h1
    omega
 | succ f ih =>
  intro b d hb hd hf x
  unfold belowL
  rw[List.mem_cons,List.mem_flatMap]
  have hkid:∀ k,k∈childs t b.id→∃ c∈t.brs,c.parent=b.id∧c.id=k∧∀ x,x∈belowL t f k↔UnderT t.brs k x:=by
   intro k hk
   obtain⟨c,hc,hp,e⟩:=(childs_mem h (.inr ⟨b,hb,rfl⟩)).1 hk
   refine⟨c,hc,hp,e,fun x=>?_⟩
   rw[← e]
   exact ih c (d+1) hc (deep_child h hb hc hp hd) b_37 x
  constructor
  ·rintro (rfl|⟨k,hk,hx⟩)
   ·exact UnderT.self
   ·obtain⟨c,hc,hp,e,hiff⟩:=hkid k hk
    refine under_trans ?_ ((hiff x).1 hx)
    rw[← e]
    exact UnderT.step hc (by rw[hp];exact unit_pos (h.units b hb)) (by rw[hp];exact UnderT.self)
  ·intro hu
   rcases under_first h ⟨b,hb,rfl⟩ hu with e|⟨k,hk,hx⟩
   ·exact .inl e
   ·obtain⟨c,hc,hp,e,hiff⟩:=hkid k hk
    exact .inr ⟨k,hk,(hiff x).2 hx⟩
theorem mem_below {t:Tr} (h:SoundM t) {b:Br} (hb:b∈t.brs) (x:Int):x∈belowT t b.id↔UnderT t.brs b.id x:=by
 obtain⟨d,hd,_⟩:=deep_some h hb
 unfold belowT
 rw[if_neg (unit_pos (h.units b hb))]
 exact mem_belowL h _ b d hb hd b_37 x
end Go.Proofs.YtafncfomiolmgaaGreatDoor
namespace Go.Proofs.YtafncfomiolmgaaGreatDoor
open Go.RowKit
def markE (l:List UInt8):Bool:=decide (l.length≤64) && allIn 33 126 l
def originF (f a n:Int):Bool:=within f 0 1073741824 && ((within a 1 1073741824 && within n 1 9999) || (a == 0 && n == 0))
def noOrigin (o:Opn):Bool:=o.office == 0 && (o.acc == 0 && o.num == 0)
def noPlace (o:Opn):Bool:=o.parent == 0 && (o.before == 0 && o.level == 0)
def placeF (o:Opn):Bool:=within o.parent 0 1073741824 && within o.before 0 1073741824
def emptyS (s:ByteArray):Bool:=s.toList.isEmpty
def kindF (o:Opn):Bool :=
 if o.kind=1 then placeF o && (within o.level 1 4 && (nameF o.title.data.toList && (markE o.mark.data.toList && originF o.office o.acc o.num)))
 else if o.kind=2 then placeF o && (o.level == 0 && (emptyS o.title && (emptyS o.mark && noOrigin o)))
 else if o.kind=3 then nameF o.title.data.toList && (noPlace o && (emptyS o.mark && noOrigin o))
 else if o.kind=4 then markE o.mark.data.toList && (noPlace o && (emptyS o.title && noOrigin o))
 else if o.kind=5∨o.kind=6 then noPlace o && (emptyS o.title && (emptyS o.mark && noOrigin o))
 else false
def formedO (o:Opn):Bool:=within o.id 1 1073741824 && (within o.day 0 1048575 && (within o.unit 1 1073741824 && kindF o))
def standsB (t:Tr) (parent level:Int):Bool:=if parent=0 then level == 1 else match brFind t.brs parent with
 | none=>false
 | some p=>fitsF p.level level
def usedB (t:Tr) (m:ByteArray) (but:Int):Bool:=!m.toList.isEmpty && t.brs.any fun b=>b.mark.toList == m.toList && !(b.id == but)
def faultC (t:Tr) (o:Opn):Int :=
 if (brFind t.brs o.unit).isSome=true then 6
 else if o.parent≠0∧(brFind t.brs o.parent).isSome=false then 7
 else if standsB t o.parent o.level=false then 18
 else if o.before≠0∧o.before∉childs t o.parent then 7
 else if usedB t o.mark 0=true then 19
 else if 256≤t.brs.length then 8 else 0
def faultM (t:Tr) (o:Opn):Int:=match brFind t.brs o.unit with
 | none=>7
 | some u =>
  if o.parent≠0∧(brFind t.brs o.parent).isSome=false then 7
  else if o.parent∈belowT t o.unit then 17
  else if standsB t o.parent u.level=false then 18
  else if o.before≠0∧(o.before=o.unit∨o.before∉childs t o.parent) then 7 else 0
def faultL (t:Tr) (o:Opn):Int:=match brFind t.brs o.unit with
 | none=>7
 | some _=>if o.kind=4∧usedB t o.mark o.unit=true then 19 else 0
def faultR (t:Tr) (o:Opn):Int:=match brFind t.brs o.unit with
 | none=>7
 | some u=>if u.kids≠[] then 11 else 0
def faultO (t:Tr) (o:Opn):Int:=if o.kind=1 then faultC t o else if o.kind=2 then faultM t o else if o.kind=5 then faultR t o else faultL t o
def newT (t:Tr) (o:Opn):Tr :=
 if o.kind=1 then createT t o else match brFind t.brs o.unit with
  | none=>t
  | some u=>if o.kind=2 then moveT t o u else if o.kind=5 then removeT t o u
   else if o.kind=3 then setU t o.unit fun b=>{ b with title:=o.title } else setU t o.unit fun b=>{ b with mark:=o.mark }
open Classical in
noncomputable def applyR (t:Tr) (o:Opn):Tr × Int :=
 if ¬ RightT t∨formedO o=false∨o.kind=6 then(⟨[],[]⟩,1) else if faultO t o≠0 then(⟨[],[]⟩,faultO t o) else if RightT (newT t o) then(newT t o,0) else(⟨[],[]⟩,15)
theorem stands_iff {t:Tr} (h:idsAsc t.brs) (p lv:Int):standsB t p lv=true↔StandsT t.brs p lv:=by
 unfold standsB StandsT
 by_cases hp:p=0
 ·simp[hp]
 ·rw[if_neg hp]
  cases hf:brFind t.brs p with
  | none =>
   have:=(find_none p).1 hf
   simp only [Bool.false_eq_true,false_iff]
   rintro (⟨h1,_⟩|⟨_,q,hq,h2,_⟩)
   ·exact hp h1
   ·exact this q hq h2
  | some q =>
   have hq:=find_in hf
   constructor
   ·exact fun h1=>.inr ⟨hp,q,hq.1,hq.2,h1⟩
   ·rintro (⟨h1,_⟩|⟨_,q2,hq2,h2,h3⟩)
    ·exact absurd h1 hp
    ·have:=asc_same h hq2 hq.1 (by rw[h2,hq.2])
     subst this
     exact h3
theorem used_no {t:Tr} {m:ByteArray} {but:Int} (h:usedB t m but=false):∀ c∈t.brs,c.id≠but→m.toList.isEmpty=false→m.toList≠c.mark.toList:=by
 intro c hc hne hm he
 unfold usedB at h
 rw[hm] at h
 simp only [Bool.not_false,Bool.true_and,List.any_eq_false] at h
 have:=h c hc
 rw[← he] at this
 simp[hne] at this
theorem markE_ok {m:ByteArray} (h:markE m.data.toList=true):m.toList.isEmpty=false→markF m.data.toList=true:=by
 intro hne
 unfold markE at h
 unfold markF
 rw[Bool.and_eq_true,decide_eq_true_eq] at h
 rw[Bool.and_eq_true,decide_eq_true_eq]
 refine⟨⟨?_,h.1⟩,h.2⟩
 by_cases h0:m.data.toList.length=0
 ·exfalso
  have h1:m.data.toList=[]:=List.eq_nil_of_length_eq_zero h0
  have h2:m.toList=[]:=by
   rw[← h1,ByteArray.toList_eq]
  rw[h2] at hne
  cases hne
 ·omega
theorem newT_sound {t:Tr} {o:Opn} (h:SoundM t) (hf:formedO o=true) (h6:o.kind≠6) (h0:faultO t o=0):SoundM (newT t o):=by
 obtain⟨hC,hK⟩:=(sound_parts t).1 h
 unfold formedO at hf
 simp only [Bool.and_eq_true] at hf
 obtain⟨-,-,hu,hk⟩:=hf
 unfold kindF at hk
 unfold faultO at h0
 unfold newT
 by_cases h1:o.kind=1
 ·rw[if_pos h1] at hk h0 ⊢
  simp only [Bool.and_eq_true] at hk
  unfold faultC at h0
  split at h0
  ·simp at h0
  ·rename_i e1
   split at h0
   ·simp at h0
   ·split at h0
    ·simp at h0
    ·rename_i e3
     split at h0
     ·simp at h0
     ·rename_i e4
      split at h0
      ·simp at h0
      ·rename_i e5
       split at h0
       ·simp at h0
       ·rename_i e6
        refine create_sound h ⟨?_,⟨hu,hk.2.1,hk.2.2.1,markE_ok hk.2.2.2.1⟩,(stands_iff hC.asc _ _).1 (by simpa using e3),fun hb=>?_,fun c hc hne=>?_,by omega⟩
        ·have:brFind t.brs o.unit=none:=by simpa using e1
         exact(find_none _).1 this
        ·by_cases hm:o.before∈childs t o.parent
         ·exact hm
         ·exact absurd ⟨hb,hm⟩ e4
        ·exact(used_no (by simpa using e5) c hc (fun e=>unit_pos (hC.units c hc) e) hne).symm
 ·rw[if_neg h1] at hk h0 ⊢
  cases hb:brFind t.brs o.unit with
  | none =>
   exfalso
   unfold faultM faultR faultL at h0
   rw[hb] at h0
   simp only [ite_self] at h0
   cases h0
  | some u =>
   have hin:=find_in hb
   show SoundM (if o.kind=2 then moveT t o u else if o.kind=5 then removeT t o u else if o.kind=3 then setU t o.unit fun b=>{ b with title:=o.title } else setU t o.unit fun b=>{ b with mark:=o.mark })
   by_cases h2:o.kind=2
   ·rw[if_pos h2] at h0 ⊢
    unfold faultM at h0
    rw[hb] at h0
    simp only at h0
    split at h0
    ·simp at h0
    ·rename_i e1
     split at h0
     ·simp at h0
     ·rename_i e2
      split at h0
      ·simp at h0
      ·rename_i e3
       split at h0
       ·simp at h0
       ·rename_i e4
        refine move_sound h ⟨hin.1,hin.2,(stands_iff hC.asc _ _).1 (by simpa using e3),fun hud=>?_,fun hbf=>?_⟩
        ·rw[← hin.2] at hud e2
         exact e2 ((mem_below h hin.1 _).2 hud)
        ·rw[mem_without]
         by_cases hm:o.before∈childs t o.parent
         ·exact⟨hm,fun e=>e4 ⟨hbf,.inl e⟩⟩
         ·exact absurd ⟨hbf,.inr hm⟩ e4
   ·rw[if_neg h2] at h0 ⊢
    by_cases h5:o.kind=5
    ·rw[if_pos h5] at h0 ⊢
     unfold faultR at h0
     rw[hb] at h0
     simp only at h0
     split at h0
     ·simp at h0
     ·rename_i e1
      exact remove_sound h hin.1 hin.2 (by simpa using e1)
    ·rw[if_neg h5] at h0 ⊢
     rw[if_neg h2] at hk
     have hun:∀ b∈t.brs,b.id=o.unit→UnitOk b:=fun b hbm _=>hC.units b hbm
     by_cases h3:o.kind=3
     ·rw[if_pos h3] at hk ⊢
      simp only [Bool.and_eq_true] at hk
      refine label_sound h _ _ (fun b=>⟨rfl,rfl,rfl,rfl⟩) (fun b hbm e=>?_) (fun b hbm e c hc hne hme=>?_)
      ·obtain⟨a1,a2,_,a4⟩:=hun b hbm e
       exact⟨a1,a2,hk.1,a4⟩
      ·intro he
       exact hne (by rw[← hC.marks b hbm c hc hme he];exact e)
     ·rw[if_neg h3] at hk ⊢
      by_cases h4:o.kind=4
      ·rw[if_pos h4] at hk
       simp only [Bool.and_eq_true] at hk
       unfold faultL at h0
       rw[hb] at h0
       simp only at h0
       split at h0
       ·simp at h0
       ·rename_i e1
        refine label_sound h _ _ (fun b=>⟨rfl,rfl,rfl,rfl⟩) (fun b hbm e=>?_) (fun b hbm e c hc hne hme=>?_)
        ·obtain⟨a1,a2,a3,_⟩:=hun b hbm e
         exact⟨a1,a2,a3,markE_ok hk.1⟩
        ·have hus:usedB t o.mark o.unit=false:=by
          rw[← Bool.not_eq_true]
          exact fun hx=>e1 ⟨h4,hx⟩
         exact used_no hus c hc hne hme
      ·exfalso
       have h56:¬ (o.kind=5∨o.kind=6):=fun h=>h.elim h5 h6
       rw[if_neg h4,if_neg h56] at hk
       cases hk
theorem applyR_right {t:Tr} {o:Opn} (h:(applyR t o).2=0):RightT t∧RightT (applyR t o).1:=by
 unfold applyR at h ⊢
 split at h
 ·simp at h
 ·rename_i e1
  rw[if_neg e1]
  split at h
  ·rename_i e2
   exact absurd h e2
  ·rename_i e2
   rw[if_neg e2]
   split at h
   ·rename_i e3
    rw[if_pos e3]
    refine⟨?_,e3⟩
    exact Classical.byContradiction fun hn=>e1 (.inl hn)
   ·simp at h
end Go.Proofs.YtafncfomiolmgaaGreatDoor
namespace Go.Proofs.YtafncfomiolmgaaGreatDoor
open Go.RowKit
theorem parent_there {t:Tr} (h:SoundM t) {u:Br} (hu:u∈t.brs):u.parent=0∨∃ b∈t.brs,b.id=u.parent:=by
 rcases (placed_mem h.asc u).1 (h.placed u hu) with ⟨h1,_⟩|⟨_,p,hpm,h2,_⟩
 ·exact .inl h1
 ·exact .inr ⟨p,hpm,h2⟩
theorem stands_there {l:List Br} {p lv:Int} (h:StandsT l p lv):p=0∨∃ b∈l,b.id=p:=by
 rcases h with ⟨h1,_⟩|⟨_,q,hq,h2,_⟩
 ·exact .inl h1
 ·exact .inr ⟨q,hq,h2⟩
theorem under_there {l:List Br} {n x:Int} (hn:∃ b∈l,b.id=n) (hu:UnderT l n x):∃ b∈l,b.id=x:=by
 cases hu with
 | self=>exact hn
 | step hb _ _=>exact⟨_,hb,rfl⟩
theorem under_rank {l:List Br} {r:Int→Nat} (hr:∀ b∈l,b.parent≠0→r b.parent<r b.id) {n x:Int} (hu:UnderT l n x):r n≤r x:=by
 induction hu with
 | self=>exact Nat.le_refl _
 | step hb hp _ ih=>have:=hr _ hb hp;omega
end Go.Proofs.YtafncfomiolmgaaGreatDoor
namespace Go.Proofs.YtafncfomiolmgaaGreatDoor
open Go.RowKit
def behindF (n:Int):List Int→Int
 | []=>0
 | x::r=>if x=n then r.headD 0 else behindF n r
theorem map_insB (g:Br→Br) (hg:∀ b,(g b).id=b.id) (b:Br):∀ l:List Br,(insB b l).map g=insB (g b) (l.map g)
 | []=>rfl
 | y::r=>by
  rw[List.map_cons,insB,insB,hg,hg]
  split
  ·rw[List.map_cons,map_insB g hg b r]
  ·rw[List.map_cons,List.map_cons]
end Go.Proofs.YtafncfomiolmgaaGreatDoor
namespace Go.Proofs.YtafncfomiolmgaaGreatDoor
open Go.RowKit
theorem asc_core {l m:List Br} (h:idsAsc l) (hc:l.map core=m.map core):idsAsc m:=by
 have h1:(l.map core).map Br.id=(m.map core).map Br.id:=by rw[hc]
 have h2:l.map Br.id=m.map Br.id:=by simpa [List.map_map,Function.comp_def,core] using h1
 have h3:(l.map Br.id).Pairwise (· < ·):=List.Pairwise.map _ (fun _ _ h=>h) h
 rw[h2,List.pairwise_map] at h3
 exact h3
theorem core_setK (t:Tr) (p:Int) (ks:List Int):(setK t p ks).brs.map core=t.brs.map core:=by
 rw[setK_brs]
 split
 ·rfl
 ·rw[List.map_map]
  congr 1
  funext b
  exact kidG_core p ks b
end Go.Proofs.YtafncfomiolmgaaGreatDoor