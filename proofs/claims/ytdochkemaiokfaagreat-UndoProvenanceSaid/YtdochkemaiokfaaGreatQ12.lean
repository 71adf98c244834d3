/- Lemmas on what the functions of the program and of the library compute: UnA. The conditions stand at each. -/
import Derived.Sort.LoopGhostIn
import Derived.Maps.OwnSet
import Derived.Test.YtdochkemaiokfaaGreatQ11
import Derived.Test.YtdochkemaiokfaaGreatQ10
/- undo.counting and the closure that it returns, walked: it hands on the operations that count. The conditions: the operations' numbers are numbers of an int; the rounds leave the maps, the log and its box alone. -/
namespace Go.Proofs.YtdochkemaiokfaaGreat
open Go.RowKit Go.Shelf Go.Maps
attribute [local go_sem] Oper.semAt_some
structure WfO (o:Opn):Prop where
 id:(Lit.int .i64 o.id).wf=true
 kind:(Lit.int .i64 o.kind).wf=true
 unit:(Lit.int .i64 o.unit).wf=true
 mark:o.mark.size≤maxLen
theorem keyedN:Keyed Tryz.prog 3:=int_keyed Tryz.underlying3
theorem uCounting (A:Option Addr) (n c:Nat) (w:World):Calls Tryz.prog 46 #[.slice A n c] w fun e w'=>e=.returned (.func (.func 69) #[] #[.pointer (some ⟨w.heap.size,0,none⟩)])∧w.alloc (.cells #[.slice A n c] 22)=w':=by
 go_enter Tryz.func46,Tryz.ntmps46
 go_wp2
 go_ret
 exact⟨rfl,rfl⟩
theorem plainElem_bool_inv {P:Program} {e:TypeId} (he:P.underlying e=some .bool) {v:Value} {z:DataW Unit × List MemPlace} (h:plainElem P e v=some z):∃ b,v=.bool b∧z=(.lit (.bool b),[]):=by
 unfold plainElem at h
 rw[he] at h
 cases v<;>simp at h
 obtain rfl:=h
 exact⟨_,rfl,rfl⟩
def UndM (l:List Opn) (D:DataW Unit):Prop:=∀ id:Int,D.atKey (.int .i64 id) (.lit (.bool false))=.lit (.bool (undoneF l id))
theorem undM_nil:UndM [] (.map []):=fun _=>rfl
theorem undM_skip {l:List Opn} {D:DataW Unit} (h:UndM l D) {o:Opn} (hk:(o.kind == 6)=false):UndM (l++[o]) D:=fun id=>by
 rw[h id,undone_snoc,hk]
 cases undoneF l id<;>rfl
theorem undM_put {l:List Opn} {D:DataW Unit} (h:UndM l D) (hD:IsMap D) {o:Opn} (hk:(o.kind == 6)=true):UndM (l++[o]) (D.put (.int .i64 o.unit) (.lit (.bool (!undoneF l o.unit)))):=fun id=>by
 rw[undone_snoc,hk,Bool.true_and]
 by_cases he:id=o.unit
 ·subst he
  rw[atKey_put_same hD (show WideAt.IsKeyLit (.int .i64 o.unit) from trivial),beq_self_eq_true]
  cases undoneF l o.unit<;>rfl
 ·rw[atKey_put_other (by simpa using he),h id,beq_eq_false_iff_ne.2 (fun e=>he e.symm)]
  cases undoneF l id<;>rfl
theorem undM_look {l:List Opn} {D:DataW Unit} (h:UndM l D) {w:World} {M n:Nat} (ho:w.ownsMap Tryz.prog 3 (plainElem Tryz.prog 4) M n D) {id:Int} (hw:(Lit.int .i64 id).wf=true) :
  (Instr.lookup 102 (.map (some M)) (.int .i64 id) false).run Tryz.prog w=.ok (.bool (undoneF l id)) w:=by
 have hz:(zeroValue 4).run Tryz.prog w=.ok (.bool false) w:=by kernel_rfl
 obtain⟨v,ps,hrun,hv⟩:=ho.lookup keyedN Tryz.underlying102 hz (plainElem_bool Tryz.underlying4 false) (keyOf_int_mk (P:=Tryz.prog) Tryz.underlying3 hw)
 obtain⟨b,rfl,hb⟩:=plainElem_bool_inv Tryz.underlying4 hv
 simp only [Prod.mk.injEq] at hb
 have:=hb.1
 rw[h id] at this
 simp only [DataW.lit.injEq,Lit.bool.injEq] at this
 rw[hrun,this]
theorem mapLat {w w':World} {k e:TypeId} {b n:Nat} {D:DataW Unit} (h:w.ownsMap Tryz.prog k (plainElem Tryz.prog e) b n D) (g:Grew w w'):w'.ownsMap Tryz.prog k (plainElem Tryz.prog e) b n D:=by
 obtain⟨es,clock,hb,r⟩:=h
 exact⟨es,clock,by rw[g.block b (Array.getElem?_eq_some_iff.1 hb).1];exact hb,r⟩
theorem mapKpS {n₀ B:Nat} {X:Nat→Prop} {w w':World} {k e:TypeId} {b n:Nat} {D:DataW Unit} (h:w.ownsMap Tryz.prog k (plainElem Tryz.prog e) b n D) (g:KpS n₀ B X w w'):w'.ownsMap Tryz.prog k (plainElem Tryz.prog e) b n D:=by
 obtain⟨es,clock,hb,r⟩:=h
 exact⟨es,clock,g.maps b es clock hb,r⟩
def cntK (l:List Opn) (k:Nat):List (Int × Opn):=((idxL l).take k).filter fun p=>countsB l p.2
theorem idx_len (l:List Opn):(idxL l).length=l.length:=by unfold idxL;simp
theorem idx_get (l:List Opn) (k:Nat) (h:k<l.length):(idxL l)[k]'(by rw[idx_len];exact h)=((k:Int),l[k]):=by
 unfold idxL
 simp
theorem cntK_succ (l:List Opn) (k:Nat) (h:k<l.length):cntK l (k+1)=cntK l k++if countsB l l[k]=true then[((k:Int),l[k])] else[]:=by
 unfold cntK
 rw[List.take_succ_eq_append_getElem (by rw[idx_len];exact h),List.filter_append,idx_get l k h]
 congr 1
 cases hc:countsB l l[k]
 ·simp[hc]
 ·simp[hc]
theorem cntK_all (l:List Opn):cntK l l.length=countI l:=by
 unfold cntK
 rw[List.take_of_length_le (by rw[idx_len];exact Nat.le_refl _)]
 rfl
theorem cntK_pre (l:List Opn) (k:Nat):cntK l k <+: countI l:=by
 unfold cntK
 exact List.IsPrefix.filter _ (List.take_prefix k (idxL l))
set_option maxHeartbeats 8000000 in
set_option maxRecDepth 100000 in
theorem uCounting1 (l:List Opn) (hwf:∀ i (h:i<l.length),WfO l[i]) (lv:Value) (w0:World) (hv:SlO w0 lv l) (hlen:l.length≤1000000) (X:Nat→Prop) (B LB lp:Nat) (hLB:LB<B) (hLX:¬ X LB) (J Jx:List (Int × Opn)→World→Prop) (W:World) (hG:Grew w0 W)
  (hJ:∀ s W1 W2,J s W1→Grew W1 W2→J s W2)
  (hY:∀ m pre x W1,J pre W1→(pre++[x]) <+: countI l→YieldAt Fence.wide m Tryz.prog lp #[.int .i64 x.1,x.2.agg] W1 fun e W'=>(e=.returned (.bool true)∧J (pre++[x]) W'∧KpS w0.heap.size B X W1 W')∨(e=.returned (.bool false)∧Jx (pre++[x]) W'))
  (h0:J [] W) (hb:Boxed W LB 22 lv) :
  Calls Tryz.prog 69 #[.func (.yield lp) #[] #[],.pointer (some ⟨LB,0,none⟩)] W fun e W'=>(∃ v,e=.returned v)∧(J (countI l) W'∨∃ pre,pre <+: countI l∧Jx pre W'):=by
 have hmm:=@run_makeMap Tryz.prog
 obtain⟨A,c,rfl,hlc,hc,hr⟩:=hv.open_
 unfold maxLen at hc
 have HR:=Lib.hid hr
 have HWF:=Lib.hid hwf
 have HJ:=Lib.hid hJ
 have HY:=Lib.hid hY
 have HG:=Lib.hid hG
 have H0:=Lib.hid h0
 have HB:=Lib.hid hb
 have HLX:=Lib.hid hLX
 have HCS:=Lib.hid (cntK_succ l)
 have HCA:=Lib.hid (cntK_all l)
 have HCP:=Lib.hid (cntK_pre l)
 have HTS:=Lib.hid (fun k (h:k<l.length)=>List.take_succ_eq_append_getElem h)
 have b0:=hb.cell
 clear hr hwf hJ hY hG h0 hb hv hLX
 refine(callsIn_wide (n:=9)).1 ?_
 refine callsIn_of_wp Tryz.func69 rfl trivial ?_ rfl
 simp only [Tryz.ntmps69,List.size_toArray,List.length_cons,List.length_nil,Nat.reduceAdd,Nat.reduceSub,Array.replicate_succ,Array.replicate_zero,List.push_toArray,List.append_toArray,List.nil_append,List.cons_append]
 refine wpIn_wide.2 ?_
 have b1:=keep_cell ((Grew.refl W).alloc (.map #[] 0)) b0
 go_wp2
 go_loopg [11] l.length (fun gg s11 wr=>∃ kk:Nat,kk≤l.length∧l.length-kk≤gg∧s11=.int .i64 kk∧Aside (∃ D,wr.ownsMap Tryz.prog 3 (plainElem Tryz.prog 4) W.heap.size kk D∧UndM (l.take kk) D)∧Aside (Grew W wr))
 case atStart=>exact⟨0,by omega,by omega,rfl,(show Aside _ from⟨_,World.ownsMap_made _ _ _ _,undM_nil⟩),(show Aside _ from(Grew.refl W).alloc _)⟩
 case round =>
  obtain⟨kk,hkk,hgk,rfl,OW,GW⟩:=hrel
  obtain⟨D,hown,hund⟩:=OW.out
  have OM:=Lib.hid hown
  have UM:=Lib.hid hund
  clear OW hown hund b0 b1
  by_cases hlt:kk<l.length
  case pos =>
   have hltz:(kk:Int)<(l.length:Int):=by omega
   obtain⟨b,off,rfl,hbb,hcell⟩:=HR.out (by omega)
   obtain⟨c0,c1,c2,c3,c4,c5,c6,c7,c8,c9,c10,c11⟩:=hcell wr (HG.out.trans GW.out) kk hlt
   have hw:=(HWF.out kk hlt).unit
   have HT:=Lib.hid (HTS.out kk hlt)
   generalize l[kk]=y at hw c0 c1 c2 c3 c4 c5 c6 c7 c8 c9 c10 c11 HT
   clear hcell
   cases hk:(y.kind == 6)
   ·have HU:=Lib.hid (undM_skip UM.out hk)
    obtain⟨y0,y1,y2,y3,y4,y5,y6,y7,y8,y9,y10,y11⟩:=y
    dsimp only at hk hw c0 c1 c2 c3 c4 c5 c6 c7 c8 c9 c10 c11
    go_wp2
    go_roundg (l.length-(kk+1))
    case measure=>omega
    case rel=>exact⟨kk+1,by omega,by omega,by go_num,(show Aside _ from⟨D,(OM.out.alloc _).mono (by omega),by rw[HT.out];exact HU.out⟩),(show Aside _ from GW.out.alloc _)⟩
   ·have HU:=Lib.hid (undM_put UM.out OM.out.isMap hk)
    have HL:=Lib.hid (fun(WX:World) (O:WX.ownsMap Tryz.prog 3 (plainElem Tryz.prog 4) W.heap.size kk D)=>undM_look UM.out O hw)
    have HKey:=Lib.hid (keyOf_int_mk (P:=Tryz.prog) Tryz.underlying3 hw)
    generalize undoneF (l.take kk) y.unit=q at HU HL
    obtain⟨y0,y1,y2,y3,y4,y5,y6,y7,y8,y9,y10,y11⟩:=y
    dsimp only at hk hw c0 c1 c2 c3 c4 c5 c6 c7 c8 c9 c10 c11 HL HU HKey
    have hlook:=HL.out _ (OM.out.alloc (.cells #[.int .i64 y0,.int .i64 y1,.int .i64 y2,.int .i64 y3,.int .i64 y4,.int .i64 y5,.int .i64 y6,.string y7,.string y8,.int .i64 y9,.int .i64 y10,.int .i64 y11] 26))
    go_wp2_with (at_mapUpdate;refine wpList_mapUpdate_own _ rfl _ _ _ 102 rfl 3 4 keyedN Tryz.underlying102 (plainElem (H:=Unit) Tryz.prog 4) W.heap.size kk _ rfl (OM.out.alloc _) (by unfold maxLen;omega) _ _ _ rfl rfl HKey.out _ [] (plainElem_bool Tryz.underlying4 _) ?_;intro w2 hown2 hgrow2)
    have OM2:=Lib.hid hown2
    have GW2:=Lib.hid (show Grew W w2 from Below.grown (GW.out.alloc _) hgrow2 (by have:=GW.out.size;simp;omega) (fun k hk=>by cases hk;exact Nat.le_refl _))
    clear hown2 hgrow2
    go_roundg (l.length-(kk+1))
    case measure=>omega
    case rel=>exact⟨kk+1,by omega,by omega,by go_num,(show Aside _ from⟨_,OM2.out,by rw[HT.out];exact HU.out⟩),(show Aside _ from GW2.out)⟩
  case neg =>
   have hltz:¬ (kk:Int)<(l.length:Int):=by omega
   obtain rfl:kk=l.length:=by omega
   rw[List.take_length] at UM
   have b2:=keep_cell GW.out HB.out.cell
   have HB2:=Lib.hid (show Boxed wr LB 22 _ from heapKeep GW.out HB.out)
   have HJ0:=Lib.hid (HJ.out _ _ _ H0.out GW.out)
   have HG2:=Lib.hid (HG.out.trans GW.out)
   generalize W.heap.size=M at OM
   clear GW
   go_wp2_with fail
   refine(wpIn_wide (n:=9)).1 ?_
   gi_loopg [29] l.length (fun gg s29 wx=>∃ kk:Nat,kk≤l.length∧l.length-kk≤gg∧s29=.int .i64 kk∧Aside (wx.ownsMap Tryz.prog 3 (plainElem Tryz.prog 4) M l.length D)∧Aside (Boxed wx LB 22 (.slice A l.length c))∧Aside (Grew w0 wx)∧Aside (J (cntK l kk) wx))
   case atStart=>exact⟨0,by omega,by omega,rfl,OM.out,HB2.out,HG2.out,HJ0.out⟩
   case round =>
    clear b2
    obtain⟨kk,hkk2,hgk2,rfl,OX,BX,GX,JX⟩:=hrel
    by_cases hlt:kk<l.length
    case neg =>
     have hltz:¬ (kk:Int)<(l.length:Int):=by omega
     obtain rfl:kk=l.length:=by omega
     have hj:=JX.out
     rw[HCA.out] at hj
     have HJX:=Lib.hid hj
     clear hj
     gi_wp2
     go_end0
     exact⟨⟨_,rfl⟩,.inl HJX.out⟩
    case pos =>
     have hltz:(kk:Int)<(l.length:Int):=by omega
     obtain⟨b,off,rfl,hbb,hcell⟩:=HR.out (by omega)
     obtain⟨c0,c1,c2,c3,c4,c5,c6,c7,c8,c9,c10,c11⟩:=hcell wr GX.out kk hlt
     have hw:=(HWF.out kk hlt).id
     have HC:=Lib.hid (HCS.out kk hlt)
     generalize l[kk]=y at hw c0 c1 c2 c3 c4 c5 c6 c7 c8 c9 c10 c11 HC
     have HL:=Lib.hid (fun(WX:World) (O:WX.ownsMap Tryz.prog 3 (plainElem Tryz.prog 4) M l.length D)=>undM_look UM.out O hw)
     have HP:=Lib.hid (HCP.out (kk+1))
     clear hcell hw
     unfold countsB at HC
     generalize undoneF l y.id=q at HL HC
     obtain⟨y0,y1,y2,y3,y4,y5,y6,y7,y8,y9,y10,y11⟩:=y
     dsimp only at HC HL c0 c1 c2 c3 c4 c5 c6 c7 c8 c9 c10 c11
     have hlook:=HL.out _ (OX.out.alloc (.cells #[.int .i64 y0,.int .i64 y1,.int .i64 y2,.int .i64 y3,.int .i64 y4,.int .i64 y5,.int .i64 y6,.string y7,.string y8,.int .i64 y9,.int .i64 y10,.int .i64 y11] 26))
     have HJA:=Lib.hid (HJ.out _ _ _ JX.out ((Grew.refl wr).alloc (.cells #[.int .i64 y0,.int .i64 y1,.int .i64 y2,.int .i64 y3,.int .i64 y4,.int .i64 y5,.int .i64 y6,.string y7,.string y8,.int .i64 y9,.int .i64 y10,.int .i64 y11] 26)))
     have HGA:=Lib.hid (GX.out.alloc (.cells #[.int .i64 y0,.int .i64 y1,.int .i64 y2,.int .i64 y3,.int .i64 y4,.int .i64 y5,.int .i64 y6,.string y7,.string y8,.int .i64 y9,.int .i64 y10,.int .i64 y11] 26))
     have HSkip:(y2 != 6 && !q)=false→RowKit.Hid (J (cntK l (kk+1)) (wr.alloc (.cells #[.int .i64 y0,.int .i64 y1,.int .i64 y2,.int .i64 y3,.int .i64 y4,.int .i64 y5,.int .i64 y6,.string y7,.string y8,.int .i64 y9,.int .i64 y10,.int .i64 y11] 26))):=fun h=>by
      have hc:=HC.out
      rw[h,if_neg (by decide),List.append_nil] at hc
      rw[hc]
      exact HJA.out
     cases hk:(y2 != 6)
     ·have HS:=HSkip (by rw[hk];rfl)
      clear HSkip HL hlook
      gi_wp2_with fail
      refine⟨fun f h=>(by cases h),?_⟩
      gi_wp2
      gi_roundg (l.length-(kk+1))
      case measure=>omega
      case rel=>exact⟨kk+1,by omega,by omega,by go_num,(show Aside _ from OX.out.alloc _),(show Aside _ from BX.out.alloc _),(show Aside _ from HGA.out),(show Aside _ from HS.out)⟩
     ·cases q
      ·have hc:=HC.out
       rw[hk,Bool.not_false,Bool.and_true,if_pos rfl] at hc
       have HCC:=Lib.hid hc
       clear hc
       obtain⟨fn,tmps,assign,body,hy,hR⟩:=HY.out 8 _ ((kk:Int),⟨y0,y1,y2,y3,y4,y5,y6,y7,y8,y9,y10,y11⟩) _ HJA.out (by rw[← HCC.out];exact HP.out)
       dsimp only [Opn.agg] at hy hR
       clear HSkip HL
       gi_wp2_with fail
       refine hR.mono ?_
       rintro e W2 (⟨rfl,hj2,hk2⟩|⟨rfl,hjx⟩)
       ·have OX2:=Lib.hid (mapKpS (OX.out.alloc _) hk2)
        have BX2:=Lib.hid (show Boxed W2 LB 22 _ from hk2.cells _ _ hLB HLX.out (BX.out.alloc _) rfl)
        have GX2:=Lib.hid (show Grew w0 W2 from Below.trans HGA.out hk2.below)
        have JX2:RowKit.Hid (J (cntK l (kk+1)) W2):=by
         show J (cntK l (kk+1)) W2
         rw[HCC.out]
         exact hj2
        clear hk2 hj2 hy hR hlook
        dsimp only
        gi_wp2
        gi_roundg (l.length-(kk+1))
        case measure=>omega
        case rel=>exact⟨kk+1,by omega,by omega,by go_num,OX2.out,BX2.out,GX2.out,JX2.out⟩
       ·have HJX2:RowKit.Hid (Jx (cntK l (kk+1)) W2):=by
         show Jx (cntK l (kk+1)) W2
         rw[HCC.out]
         exact hjx
        clear hjx hy hR hlook
        dsimp only
        gi_wp2
        refine bodyPost_ret (results_none rfl _ _ _) rfl ?_
        exact⟨⟨_,rfl⟩,.inr ⟨_,HP.out,HJX2.out⟩⟩
      ·have HS:=HSkip (by rw[hk];rfl)
       clear HSkip HL
       gi_wp2_with fail
       refine⟨fun f h=>(by cases h),?_⟩
       gi_wp2
       gi_roundg (l.length-(kk+1))
       case measure=>omega
       case rel=>exact⟨kk+1,by omega,by omega,by go_num,(show Aside _ from OX.out.alloc _),(show Aside _ from BX.out.alloc _),(show Aside _ from HGA.out),(show Aside _ from HS.out)⟩
theorem countStops (l:List Opn) (hwf:∀ i (h:i<l.length),WfO l[i]) (lv:Value) (w0:World) (hv:SlO w0 lv l) (hlen:l.length≤1000000) (X:Nat→Prop) (B LB n:Nat) (hLB:LB<B) (hLX:¬ X LB) (w:World) (hG:Grew w0 w) (hb:Boxed w LB 22 lv) :
  SeqStopsS Fence.wide n Tryz.prog 69 #[.pointer (some ⟨LB,0,none⟩)] (fun x:Int × Opn=>#[Value.int .i64 x.1,x.2.agg]) w0.heap.size B X (fun xs=>xs=countI l) (fun pre=>pre <+: countI l) w :=
 fun lp J Jx W hW hJ _ hY h0=>by
  refine callsIn_wide.2 ?_
  refine(uCounting1 l hwf lv w0 hv hlen X B LB lp hLB hLX J Jx W (hG.trans hW) hJ (fun m pre x W1 hj hlt=>yieldFree rfl m (hY pre x W1 hj hlt)) h0 (heapKeep hW hb)).mono ?_
  rintro e W' ⟨h,h2|⟨pre,h2,h3⟩⟩
  ·exact⟨h,.inl ⟨_,rfl,h2⟩⟩
  ·exact⟨h,.inr ⟨pre,h2,h3⟩⟩
end Go.Proofs.YtdochkemaiokfaaGreat