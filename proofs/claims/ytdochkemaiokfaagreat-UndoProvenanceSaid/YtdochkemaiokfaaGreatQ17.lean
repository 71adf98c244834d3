/- Lemmas on what the functions of the program and of the library compute: Es9. The conditions stand at each. -/
import Derived.Test.YtdochkemaiokfaaGreatQ15
import Derived.Test.YtdochkemaiokfaaGreatQ16
import Derived.Test.YtdochkemaiokfaaGreatQ3
/- The editor's move, walked. The conditions: the tree is right; the library's own variables hold what they must. -/
namespace Go.Proofs.YtdochkemaiokfaaGreat
open Go.RowKit
theorem take_at {t:Tr} {u:Br} {i:Nat} (hi:i<t.brs.length):∃ h:i<(takeM t u).brs.length,(takeM t u).brs[i].id=t.brs[i].id:=by
 unfold takeM
 by_cases h0:u.parent=0
 ·have e:(setK t u.parent (withoutF u.id (childs t u.parent))).brs=t.brs:=by rw[setK_brs,if_pos h0]
  refine⟨by rw[e];exact hi,?_⟩
  simp only [e]
 ·have e:(setK t u.parent (withoutF u.id (childs t u.parent))).brs=t.brs.map (kidG u.parent (withoutF u.id (childs t u.parent))):=by rw[setK_brs,if_neg h0]
  refine⟨by rw[e,List.length_map];exact hi,?_⟩
  simp only [e,List.getElem_map]
  unfold kidG
  split<;>rfl
theorem take_len (t:Tr) (u:Br):(takeM t u).brs.length=t.brs.length:=by
 unfold takeM
 rw[setK_brs]
 split
 ·rfl
 ·rw[List.length_map]
section
variable {w0:World} {E:Nat} {bv:Value} {t:Tr} {w:World}
set_option maxHeartbeats 2000000 in
theorem edMoveNo (h:EdB w0.heap.size E bv t w) (hG:Grew w0 w) (hT:TOk t) (o:Opn) (hb:brFind t.brs o.unit=none) (R:Tr) :
  Calls Tryz.prog 93 #[.pointer (some ⟨E,0,none⟩),o.agg] w (MEnd w0 E R 7):=by
 have HC:=Lib.hid (fun W (hW:Grew (w.alloc (.cells o.cells.toArray 26)) W)=>opn_cells o hW)
 have HG:=Lib.hid hG
 have KB:=Lib.hid (fun W (hW:Grew w W)=>edBranchNo (h.grew hW) hT.asc hT.len hb)
 obtain⟨oi,od,ok,ou,op,ob,ol,ot,om,oo,oa,on⟩:=o
 unfold Opn.agg
 clear h hG hT hb
 dsimp only [Opn.cells] at KB HC ⊢
 go_enter Tryz.func93,Tryz.ntmps93
 go_wp2_with fail
 refine(KB.out _ ((Grew.refl w).alloc _)).mono ?_
 rintro e w1 ⟨rfl,g1⟩
 dsimp only
 go_wp2
 go_ret
 exact⟨rfl,HG.out.trans (((Grew.refl w).alloc _).trans g1),fun h=>by cases h⟩
set_option maxHeartbeats 16000000 in
set_option maxRecDepth 100000 in
theorem edMove (h:EdB w0.heap.size E bv t w) (hG:Grew w0 w) (hEnv:Env w0) (hR:RightT t) (hS:SoundM t) (o:Opn) (hk2:o.kind=2) {u:Br} (hb:brFind t.brs o.unit=some u) :
  Calls Tryz.prog 93 #[.pointer (some ⟨E,0,none⟩),o.agg] w (MEnd w0 E (moveT t o u) (resM t o u)):=by
 have hT:=tok_of hS
 have HC:=Lib.hid (fun W (hW:Grew (w.alloc (.cells o.cells.toArray 26)) W)=>opn_cells o hW)
 have HG:=Lib.hid hG
 obtain⟨i,hi,ei,en⟩:=find_at hb
 obtain⟨B,cap,hbv⟩:=h.at_ hi
 have kb:=fun W (hW:Grew w W)=>edBranch (h.grew hW) hT.asc hT.len hi hbv
 rw[en] at kb
 have KB:=Lib.hid kb
 obtain⟨A,hA,hBr⟩:=edBranchR h hT o.parent
 have KP:=Lib.hid hBr
 have KS:=Lib.hid (fun hp W (hW:Grew w W)=>edStands (h.grew hW) hT o.parent u.level hp)
 have HKA:=Lib.hid (fun hp=>edKidsAt h hT.asc hT.len (p:=o.parent) hp)
 obtain⟨n,hn⟩:∃ n,resM t o u=n:=⟨_,rfl⟩
 have H2:=Lib.hid (fun a=>hn.symm.trans (resM_2 hb a))
 have H3:=Lib.hid (fun a b=>hn.symm.trans (resM_3 hb a b))
 have H4:=Lib.hid (fun a b c=>hn.symm.trans (resM_4 hb a b c))
 have H5:=Lib.hid (fun a b c d=>hn.symm.trans (resM_5 hb a b c d))
 have H6:=Lib.hid (fun a b c d=>(show _∧_ from⟨(resM_6 hb a b c d).1,hn.symm.trans (resM_6 hb a b c d).2⟩))
 obtain⟨rv,-,-,ce0,ce1,-,-⟩:=h.reads
 have KW:=Lib.hid (fun W (hW:Grew w W)=>moveBelow (o:=o) (h.grew hW) hS hR (hEnv.mono (hG.trans hW)) hb (keep_cell hW ce0))
 have HST:=Lib.hid (fun W h6 hg6 p=>moveStore (w0:=w0) (E:=E) (bv:=bv) (t:=t) (u:=u) (W:=W) h6 hg6 hS (take_at hi).1 (by rw[take_len];exact hbv) ((take_at (u:=u) hi).2.trans (by rw[ei])) p)
 have hup:u.parent=0∨∃ b∈t.brs,b.id=u.parent:=stands_there (own_stands hS (find_in hb).1)
 have HUP:=Lib.hid hup
 have eu:=(find_in hb).2
 have kt:∀ W,Grew w W→Calls Tryz.prog 137 #[.pointer (some ⟨E,0,none⟩),.int .i64 o.unit] W fun e w'=>e=.returned (.tuple #[])∧EdB w0.heap.size E bv (takeM t u) w'∧Grew w0 w'∧∀ p x,W.cell? p=some x→w.heap.size≤p.block→w'.cell? p=some x:=fun W hW=>by
  have:=edTakeAt h hG W hW hT.asc hT.len hi (by rw[ei];exact hup)
  rw[ei] at this
  rw[← eu]
  exact this
 have KT:=Lib.hid kt
 have HCC:=Lib.hid (fun h0=>can_move hS hk2 h0 hb)
 have HK2:=Lib.hid hk2
 have HE:=Lib.hid hEnv
 have HFP:RowKit.Hid (¬ (o.parent≠0∧(brFind t.brs o.parent).isSome=false)→(o.parent=0∨∃ b,brFind t.brs o.parent=some b)∧(o.parent=0∨∃ b∈t.brs,b.id=o.parent)):=fun hno=>by
  by_cases h0:o.parent=0
  ·exact⟨.inl h0,.inl h0⟩
  ·cases hb:brFind t.brs o.parent with
   | none=>exact absurd ⟨h0,by rw[hb];rfl⟩ hno
   | some b=>exact⟨.inr ⟨b,rfl⟩,.inr ⟨b,(find_in hb).1,(find_in hb).2⟩⟩
 have HCL:RowKit.Hid (w.cell? ⟨B,i*6+2,none⟩=some (.int .i64 u.level)∧B<w.heap.size):=by
  obtain⟨rv,cs,hE⟩:=h
  have:=hE.at_ hi hbv
  rw[ei] at this
  exact⟨this.2.2.1,this.2.2.2.2.2.2.2.2⟩
 have CL2:=Lib.hid HCL.out.1
 have HBW:RowKit.Hid (B≠w.heap.size):=fun e=>by
  have:=HCL.out.2
  omega
 rw[hn]
 have HH:=Lib.hid h
 have HS:=Lib.hid hS
 have HB:=Lib.hid hb
 have CE0:=Lib.hid ce0
 have CE1:=Lib.hid ce1
 have HBV:=Lib.hid hbv
 generalize u.level=ul at KS H4 H5 H6 CL2
 clear h hG hEnv hR hS hk2 hn hBr hT ce0 ce1 hbv kb kt hb ei en hup HCL eu
 generalize hq2:(brFind t.brs o.parent).isSome=q2 at hA H2 H3 H4 H5 H6 HFP
 generalize hbl:belowT t o.unit=BL at KW H3 H4 H5 H6
 clear hq2 hbl
 obtain⟨oi,od,ok,ou,op,ob,ol,ot,om,oo,oa,on⟩:=o
 unfold Opn.agg
 dsimp only [Opn.cells] at KB KP KS KW KT HKA HC HB H2 H3 H4 H5 H6 HFP ⊢
 go_enter Tryz.func93,Tryz.ntmps93
 go_wp2_with fail
 refine(KB.out _ ((Grew.refl w).alloc _)).mono ?_
 rintro e w1 ⟨rfl,g1⟩
 have B1:=Lib.hid g1
 have G1:=Lib.hid (((Grew.refl w).alloc _).trans g1)
 obtain⟨o3,o4,o5,o6,o7,o8⟩:=HC.out w1 g1
 clear g1 o6 o7 o8
 dsimp only
 by_cases hz:op=0
 ·subst hz
  have HNO:RowKit.Hid (¬ ((0:Int)≠0∧q2=false)):=fun h=>h.1 rfl
  have c0:=keep_cell G1.out CE0.out
  have c1:=keep_cell G1.out CE1.out
  go_wp2_with fail
  go_region_with (first|(go_at_call 136;refine(KW.out _ G1.out.drew).mono ?_;rintro e w2 ⟨v2,rfl,s2,g2⟩;obtain⟨A2,m2,rfl,hm2,hm3,-⟩:=s2.open_;have S2:=Lib.hid s2;have HG2:=Lib.hid g2;clear s2 g2;dsimp only))
  all_goals
   have B2:=Lib.hid (B1.out.trans (Grew.trans (Grew.refl _).drew HG2.out))
   have G2:=Lib.hid (G1.out.trans (Grew.trans (Grew.refl _).drew HG2.out))
   clear HG2 c0 c1 o3 o4 o5
   obtain⟨o3,o4,o5,-,-,-⟩:=HC.out w2 B2.out
   obtain⟨q5,hq5⟩:∃ q,BL.any (fun y=>((0:Int) == y))=q:=⟨_,rfl⟩
   have KI:=containsI BL 0 _ w2 S2.out
   rw[hq5] at KI
   have KI':=Lib.hid KI
   have HQ5:=Lib.hid hq5
   clear KI hq5 S2
   go_wp2_with fail
   refine(KI'.out).mono ?_
   rintro e w3 ⟨rfl,rfl⟩
   dsimp only
   clear KI'
   cases q5
   case true =>
    obtain rfl:=H3.out HNO.out (by
     obtain⟨y,hy,e⟩:=List.any_eq_true.1 HQ5.out
     have:(0:Int)=y:=by simpa using e
     rw[this]
     exact hy)
    go_wp2
    go_ret
    exact⟨rfl,HG.out.trans G2.out,fun h=>by cases h⟩
   have HNM:RowKit.Hid ((0:Int)∉BL):=fun hm=>by
    have:=List.any_eq_false.1 HQ5.out 0 hm
    simp at this
   obtain⟨hp1,hp2⟩:=HFP.out HNO.out
   have KSS:=Lib.hid (KS.out hp1)
   obtain⟨ab,ao,kv,hkat,hKK⟩:=HKA.out hp2
   have HKAT:=Lib.hid hkat
   have KK:=Lib.hid hKK
   clear hkat hKK
   generalize hq3:standsB t 0 ul=q3 at KSS H4 H5 H6
   clear hq3
   have KSi:=Lib.hid (fun i:Gr w2=>KSS.out i.W (G2.out.trans i.g))
   have c2:=keep_cell G2.out CL2.out
   go_wp2_with fail
   refine region_gr w2 (by kernel_rfl) (by kernel_rfl) (Grew.refl _) ?_
   have f4:=Gr.cell o4
   have f2:=Gr.cell c2
   repeat (first|go_big_quiet_step ((exact Gr.calls _ (KSi.out _)))|quiet_step ((exact Gr.calls _ (KSi.out _))))
   refine wpQuiet_nil ?_
   intro _ hw'
   obtain⟨wi,rfl⟩:=hw'
   clear f4 f2 KSi c2
   have B4:=Lib.hid (B2.out.trans wi.g)
   have G4:=Lib.hid (G2.out.trans wi.g)
   clear o3 o4 o5
   obtain⟨o3,o4,o5,-,-,-⟩:=HC.out wi.W B4.out
   cases q3
   case false =>
    obtain rfl:=H4.out HNO.out HNM.out (by first|rfl|trivial)
    go_wp2
    go_ret
    exact⟨rfl,HG.out.trans G4.out,fun h=>by cases h⟩
   by_cases hb0:ob=0
   ·subst hb0
    have HNB:RowKit.Hid (¬ ((0:Int)≠0∧((0:Int)=ou∨(0:Int)∉childs t 0))):=fun h=>h.1 rfl
    go_wp2_with fail
    refine region_gr wi.W (by kernel_rfl) (by kernel_rfl) (Grew.refl _) ?_
    have f5:=Gr.cell o5
    repeat (first|go_big_quiet_step (fail)|quiet_step (fail))
    refine wpQuiet_nil ?_
    intro _ hw'
    obtain⟨wj,rfl⟩:=hw'
    clear f5
    have B5:=Lib.hid (B4.out.trans wj.g)
    have G5:=Lib.hid (G4.out.trans wj.g)
    clear o3 o4 o5
    obtain⟨o3,o4,o5,-,-,-⟩:=HC.out wj.W B5.out
    obtain⟨hf0,hn6⟩:=H6.out HNO.out HNM.out (by first|rfl|trivial) HNB.out
    have HN6:=Lib.hid hn6
    have hcan:=HCC.out (by unfold faultO;rw[if_neg (by show ¬ ok=1;rw[HK2.out];decide),if_pos HK2.out];exact hf0)
    have HCAN:=Lib.hid hcan
    clear hf0 hn6 hcan
    go_wp2_with fail
    refine(KT.out _ G5.out).mono ?_
    rintro e w6 ⟨rfl,hE6,hG6,hk6⟩
    have q3:=hk6 _ _ o3 (Nat.le_refl _)
    have q4:=hk6 _ _ o4 (Nat.le_refl _)
    have q5:=hk6 _ _ o5 (Nat.le_refl _)
    obtain⟨h7,g7,z7,v7,c7⟩:=HST.out w6 hE6 hG6 0
    have r3:=(World.cell?_setCell_far w6 ⟨B,i*6+1,none⟩ _ (.int .i64 0) HBW.out).trans q3
    have r4:=(World.cell?_setCell_far w6 ⟨B,i*6+1,none⟩ _ (.int .i64 0) HBW.out).trans q4
    have r5:=(World.cell?_setCell_far w6 ⟨B,i*6+1,none⟩ _ (.int .i64 0) HBW.out).trans q5
    have CP:=Lib.hid (movePut (o:=⟨oi,od,ok,ou,0,0,ol,ot,om,oo,oa,on⟩) HS.out HCAN.out HUP.out h7 g7)
    dsimp only at CP
    clear o3 o4 o5 hE6 hG6 hk6 h7 g7
    dsimp only
    go_wp2_with fail
    refine(CP.out).mono ?_
    rintro e w9 ⟨rfl,hE9,hG9⟩
    have HE9:=Lib.hid hE9
    have HG9:=Lib.hid hG9
    have CL:=Lib.hid (moveLimit (o:=⟨oi,od,ok,ou,0,0,ol,ot,om,oo,oa,on⟩) HS.out HCAN.out hE9 (HE.out.mono hG9))
    rw[← HN6.out] at CL
    clear hE9 hG9 r3 r4 r5 q3 q4 q5 CP z7 c7
    dsimp only
    go_wp2_with fail
    refine(CL.out).mono ?_
    rintro e w10 ⟨rfl,g10⟩
    have HG10:=Lib.hid g10
    clear g10
    dsimp only
    go_wp2
    go_ret
    exact⟨rfl,HG9.out.trans HG10.out,fun _=>⟨bv,HE9.out.grew HG10.out⟩⟩
   have hb0':(ob != 0)=true:=by simpa using hb0
   by_cases hbu:ob=ou
   ·subst hbu
    obtain rfl:=H5.out HNO.out HNM.out (by first|rfl|trivial) ⟨hb0,.inl rfl⟩
    go_wp2_with fail
    refine region_gr wi.W (by kernel_rfl) (by kernel_rfl) (Grew.refl _) ?_
    have f5:=Gr.cell o5
    have f3:=Gr.cell o3
    repeat (first|go_big_quiet_step (fail)|quiet_step (fail))
    refine wpQuiet_nil ?_
    intro _ hw'
    obtain⟨wj,rfl⟩:=hw'
    clear f5 f3
    have B5:=Lib.hid (B4.out.trans wj.g)
    have G5:=Lib.hid (G4.out.trans wj.g)
    clear o3 o4 o5
    obtain⟨o3,o4,o5,-,-,-⟩:=HC.out wj.W B5.out
    go_wp2
    go_ret
    exact⟨rfl,HG.out.trans G5.out,fun h=>by cases h⟩
   have hbu':(ob == ou)=false:=by simpa using hbu
   have hk3:=HKAT.out.grew G4.out
   have hkc:=kidsHas hk3 ob
   obtain⟨q7,hq7⟩:∃ q,(childs t 0).any (fun y=>(ob == y))=q:=⟨_,rfl⟩
   rw[hq7] at hkc
   have HKi:=Lib.hid (fun i:Gr wi.W=>hkc i.W i.g)
   have KKi:=Lib.hid (fun i:Gr wi.W=>KK.out i.W (G4.out.trans i.g))
   have HQ7:=Lib.hid hq7
   clear hkc hq7 KK
   obtain⟨Ak,ck,rfl⟩:=own_slice hk3.own
   have f6:=Gr.cell hk3.cell
   generalize (childs t 0).length=Lk at f6 HKi
   clear hk3 HKAT
   go_wp2_with fail
   refine region_gr wi.W (by kernel_rfl) (by kernel_rfl) (Grew.refl _) ?_
   have f5:=Gr.cell o5
   have f4:=Gr.cell o4
   have f3:=Gr.cell o3
   repeat (first|go_big_quiet_step (first|(with_reducible exact Gr.calls _ (KKi.out _))|(with_reducible exact Gr.same _ (HKi.out _)))|quiet_step (first|(with_reducible exact Gr.calls _ (KKi.out _))|(with_reducible exact Gr.same _ (HKi.out _))))
   refine wpQuiet_nil ?_
   intro _ hw'
   obtain⟨wj,rfl⟩:=hw'
   clear f5 f4 f3 f6 KKi HKi
   have B5:=Lib.hid (B4.out.trans wj.g)
   have G5:=Lib.hid (G4.out.trans wj.g)
   clear o3 o4 o5
   obtain⟨o3,o4,o5,-,-,-⟩:=HC.out wj.W B5.out
   cases q7
   case false =>
    have hnm:ob∉childs t 0:=fun hm=>by
     have:=List.any_eq_false.1 HQ7.out ob hm
     simp at this
    obtain rfl:=H5.out HNO.out HNM.out (by first|rfl|trivial) ⟨hb0,.inr hnm⟩
    go_wp2
    go_ret
    exact⟨rfl,HG.out.trans G5.out,fun h=>by cases h⟩
   have HNB:RowKit.Hid (¬ (ob≠0∧(ob=ou∨ob∉childs t 0))):=fun h=>h.2.elim hbu (fun hm=>hm (by
    obtain⟨y,hy,e⟩:=List.any_eq_true.1 HQ7.out
    have:ob=y:=by simpa using e
    rw[this]
    exact hy))
   obtain⟨hf0,hn6⟩:=H6.out HNO.out HNM.out (by first|rfl|trivial) HNB.out
   have HN6:=Lib.hid hn6
   have hcan:=HCC.out (by unfold faultO;rw[if_neg (by show ¬ ok=1;rw[HK2.out];decide),if_pos HK2.out];exact hf0)
   have HCAN:=Lib.hid hcan
   clear hf0 hn6 hcan
   go_wp2_with fail
   refine(KT.out _ G5.out).mono ?_
   rintro e w6 ⟨rfl,hE6,hG6,hk6⟩
   have q3:=hk6 _ _ o3 (Nat.le_refl _)
   have q4:=hk6 _ _ o4 (Nat.le_refl _)
   have q5:=hk6 _ _ o5 (Nat.le_refl _)
   obtain⟨h7,g7,z7,v7,c7⟩:=HST.out w6 hE6 hG6 0
   have r3:=(World.cell?_setCell_far w6 ⟨B,i*6+1,none⟩ _ (.int .i64 0) HBW.out).trans q3
   have r4:=(World.cell?_setCell_far w6 ⟨B,i*6+1,none⟩ _ (.int .i64 0) HBW.out).trans q4
   have r5:=(World.cell?_setCell_far w6 ⟨B,i*6+1,none⟩ _ (.int .i64 0) HBW.out).trans q5
   have CP:=Lib.hid (movePut (o:=⟨oi,od,ok,ou,0,ob,ol,ot,om,oo,oa,on⟩) HS.out HCAN.out HUP.out h7 g7)
   dsimp only at CP
   clear o3 o4 o5 hE6 hG6 hk6 h7 g7
   dsimp only
   go_wp2_with fail
   refine(CP.out).mono ?_
   rintro e w9 ⟨rfl,hE9,hG9⟩
   have HE9:=Lib.hid hE9
   have HG9:=Lib.hid hG9
   have CL:=Lib.hid (moveLimit (o:=⟨oi,od,ok,ou,0,ob,ol,ot,om,oo,oa,on⟩) HS.out HCAN.out hE9 (HE.out.mono hG9))
   rw[← HN6.out] at CL
   clear hE9 hG9 r3 r4 r5 q3 q4 q5 CP z7 c7
   dsimp only
   go_wp2_with fail
   refine(CL.out).mono ?_
   rintro e w10 ⟨rfl,g10⟩
   have HG10:=Lib.hid g10
   clear g10
   dsimp only
   go_wp2
   go_ret
   exact⟨rfl,HG9.out.trans HG10.out,fun _=>⟨bv,HE9.out.grew HG10.out⟩⟩
 ·have hz':(op != 0)=true:=by simpa using hz
  go_wp2_with fail
  refine(KP.out _ G1.out).mono ?_
  rintro e wp ⟨rfl,gp⟩
  have Bp:=Lib.hid (B1.out.trans gp)
  have Gp:=Lib.hid (G1.out.trans gp)
  clear gp o3 o4 o5
  obtain⟨o3,o4,o5,-,-,-⟩:=HC.out wp Bp.out
  dsimp only
  cases A with
  | none =>
   obtain rfl:=H2.out ⟨hz,hA.symm⟩
   go_wp2
   go_ret
   exact⟨rfl,HG.out.trans Gp.out,fun h=>by cases h⟩
  | some a =>
   obtain rfl:q2=true:=hA.symm
   have HNO:RowKit.Hid (¬ (op≠0∧true=false)):=fun h=>by have:=h.2;cases this
   have c0:=keep_cell Gp.out CE0.out
   have c1:=keep_cell Gp.out CE1.out
   go_wp2_with fail
   go_region_with (first|(go_at_call 136;refine(KW.out _ Gp.out.drew).mono ?_;rintro e w2 ⟨v2,rfl,s2,g2⟩;obtain⟨A2,m2,rfl,hm2,hm3,-⟩:=s2.open_;have S2:=Lib.hid s2;have HG2:=Lib.hid g2;clear s2 g2;dsimp only))
   all_goals
    have B2:=Lib.hid (Bp.out.trans (Grew.trans (Grew.refl _).drew HG2.out))
    have G2:=Lib.hid (Gp.out.trans (Grew.trans (Grew.refl _).drew HG2.out))
    clear HG2 c0 c1 o3 o4 o5
    obtain⟨o3,o4,o5,-,-,-⟩:=HC.out w2 B2.out
    obtain⟨q5,hq5⟩:∃ q,BL.any (fun y=>((op:Int) == y))=q:=⟨_,rfl⟩
    have KI:=containsI BL op _ w2 S2.out
    rw[hq5] at KI
    have KI':=Lib.hid KI
    have HQ5:=Lib.hid hq5
    clear KI hq5 S2
    go_wp2_with fail
    refine(KI'.out).mono ?_
    rintro e w3 ⟨rfl,rfl⟩
    dsimp only
    clear KI'
    cases q5
    case true =>
     obtain rfl:=H3.out HNO.out (by
      obtain⟨y,hy,e⟩:=List.any_eq_true.1 HQ5.out
      have:(op:Int)=y:=by simpa using e
      rw[this]
      exact hy)
     go_wp2
     go_ret
     exact⟨rfl,HG.out.trans G2.out,fun h=>by cases h⟩
    have HNM:RowKit.Hid ((op:Int)∉BL):=fun hm=>by
     have:=List.any_eq_false.1 HQ5.out op hm
     simp at this
    obtain⟨hp1,hp2⟩:=HFP.out HNO.out
    have KSS:=Lib.hid (KS.out hp1)
    obtain⟨ab,ao,kv,hkat,hKK⟩:=HKA.out hp2
    have HKAT:=Lib.hid hkat
    have KK:=Lib.hid hKK
    clear hkat hKK
    generalize hq3:standsB t op ul=q3 at KSS H4 H5 H6
    clear hq3
    have KSi:=Lib.hid (fun i:Gr w2=>KSS.out i.W (G2.out.trans i.g))
    have c2:=keep_cell G2.out CL2.out
    go_wp2_with fail
    refine region_gr w2 (by kernel_rfl) (by kernel_rfl) (Grew.refl _) ?_
    have f4:=Gr.cell o4
    have f2:=Gr.cell c2
    repeat (first|go_big_quiet_step ((exact Gr.calls _ (KSi.out _)))|quiet_step ((exact Gr.calls _ (KSi.out _))))
    refine wpQuiet_nil ?_
    intro _ hw'
    obtain⟨wi,rfl⟩:=hw'
    clear f4 f2 KSi c2
    have B4:=Lib.hid (B2.out.trans wi.g)
    have G4:=Lib.hid (G2.out.trans wi.g)
    clear o3 o4 o5
    obtain⟨o3,o4,o5,-,-,-⟩:=HC.out wi.W B4.out
    cases q3
    case false =>
     obtain rfl:=H4.out HNO.out HNM.out (by first|rfl|trivial)
     go_wp2
     go_ret
     exact⟨rfl,HG.out.trans G4.out,fun h=>by cases h⟩
    by_cases hb0:ob=0
    ·subst hb0
     have HNB:RowKit.Hid (¬ ((0:Int)≠0∧((0:Int)=ou∨(0:Int)∉childs t op))):=fun h=>h.1 rfl
     go_wp2_with fail
     refine region_gr wi.W (by kernel_rfl) (by kernel_rfl) (Grew.refl _) ?_
     have f5:=Gr.cell o5
     repeat (first|go_big_quiet_step (fail)|quiet_step (fail))
     refine wpQuiet_nil ?_
     intro _ hw'
     obtain⟨wj,rfl⟩:=hw'
     clear f5
     have B5:=Lib.hid (B4.out.trans wj.g)
     have G5:=Lib.hid (G4.out.trans wj.g)
     clear o3 o4 o5
     obtain⟨o3,o4,o5,-,-,-⟩:=HC.out wj.W B5.out
     obtain⟨hf0,hn6⟩:=H6.out HNO.out HNM.out (by first|rfl|trivial) HNB.out
     have HN6:=Lib.hid hn6
     have hcan:=HCC.out (by unfold faultO;rw[if_neg (by show ¬ ok=1;rw[HK2.out];decide),if_pos HK2.out];exact hf0)
     have HCAN:=Lib.hid hcan
     clear hf0 hn6 hcan
     go_wp2_with fail
     refine(KT.out _ G5.out).mono ?_
     rintro e w6 ⟨rfl,hE6,hG6,hk6⟩
     have q3:=hk6 _ _ o3 (Nat.le_refl _)
     have q4:=hk6 _ _ o4 (Nat.le_refl _)
     have q5:=hk6 _ _ o5 (Nat.le_refl _)
     obtain⟨h7,g7,z7,v7,c7⟩:=HST.out w6 hE6 hG6 op
     have r3:=(World.cell?_setCell_far w6 ⟨B,i*6+1,none⟩ _ (.int .i64 op) HBW.out).trans q3
     have r4:=(World.cell?_setCell_far w6 ⟨B,i*6+1,none⟩ _ (.int .i64 op) HBW.out).trans q4
     have r5:=(World.cell?_setCell_far w6 ⟨B,i*6+1,none⟩ _ (.int .i64 op) HBW.out).trans q5
     have CP:=Lib.hid (movePut (o:=⟨oi,od,ok,ou,op,0,ol,ot,om,oo,oa,on⟩) HS.out HCAN.out HUP.out h7 g7)
     dsimp only at CP
     clear o3 o4 o5 hE6 hG6 hk6 h7 g7
     dsimp only
     go_wp2_with fail
     refine(CP.out).mono ?_
     rintro e w9 ⟨rfl,hE9,hG9⟩
     have HE9:=Lib.hid hE9
     have HG9:=Lib.hid hG9
     have CL:=Lib.hid (moveLimit (o:=⟨oi,od,ok,ou,op,0,ol,ot,om,oo,oa,on⟩) HS.out HCAN.out hE9 (HE.out.mono hG9))
     rw[← HN6.out] at CL
     clear hE9 hG9 r3 r4 r5 q3 q4 q5 CP z7 c7
     dsimp only
     go_wp2_with fail
     refine(CL.out).mono ?_
     rintro e w10 ⟨rfl,g10⟩
     have HG10:=Lib.hid g10
     clear g10
     dsimp only
     go_wp2
     go_ret
     exact⟨rfl,HG9.out.trans HG10.out,fun _=>⟨bv,HE9.out.grew HG10.out⟩⟩
    have hb0':(ob != 0)=true:=by simpa using hb0
    by_cases hbu:ob=ou
    ·subst hbu
     obtain rfl:=H5.out HNO.out HNM.out (by first|rfl|trivial) ⟨hb0,.inl rfl⟩
     go_wp2_with fail
     refine region_gr wi.W (by kernel_rfl) (by kernel_rfl) (Grew.refl _) ?_
     have f5:=Gr.cell o5
     have f3:=Gr.cell o3
     repeat (first|go_big_quiet_step (fail)|quiet_step (fail))
     refine wpQuiet_nil ?_
     intro _ hw'
     obtain⟨wj,rfl⟩:=hw'
     clear f5 f3
     have B5:=Lib.hid (B4.out.trans wj.g)
     have G5:=Lib.hid (G4.out.trans wj.g)
     clear o3 o4 o5
     obtain⟨o3,o4,o5,-,-,-⟩:=HC.out wj.W B5.out
     go_wp2
     go_ret
     exact⟨rfl,HG.out.trans G5.out,fun h=>by cases h⟩
    have hbu':(ob == ou)=false:=by simpa using hbu
    have hk3:=HKAT.out.grew G4.out
    have hkc:=kidsHas hk3 ob
    obtain⟨q7,hq7⟩:∃ q,(childs t op).any (fun y=>(ob == y))=q:=⟨_,rfl⟩
    rw[hq7] at hkc
    have HKi:=Lib.hid (fun i:Gr wi.W=>hkc i.W i.g)
    have KKi:=Lib.hid (fun i:Gr wi.W=>KK.out i.W (G4.out.trans i.g))
    have HQ7:=Lib.hid hq7
    clear hkc hq7 KK
    obtain⟨Ak,ck,rfl⟩:=own_slice hk3.own
    have f6:=Gr.cell hk3.cell
    generalize (childs t op).length=Lk at f6 HKi
    clear hk3 HKAT
    go_wp2_with fail
    refine region_gr wi.W (by kernel_rfl) (by kernel_rfl) (Grew.refl _) ?_
    have f5:=Gr.cell o5
    have f4:=Gr.cell o4
    have f3:=Gr.cell o3
    repeat (first|go_big_quiet_step (first|(with_reducible exact Gr.calls _ (KKi.out _))|(with_reducible exact Gr.same _ (HKi.out _)))|quiet_step (first|(with_reducible exact Gr.calls _ (KKi.out _))|(with_reducible exact Gr.same _ (HKi.out _))))
    refine wpQuiet_nil ?_
    intro _ hw'
    obtain⟨wj,rfl⟩:=hw'
    clear f5 f4 f3 f6 KKi HKi
    have B5:=Lib.hid (B4.out.trans wj.g)
    have G5:=Lib.hid (G4.out.trans wj.g)
    clear o3 o4 o5
    obtain⟨o3,o4,o5,-,-,-⟩:=HC.out wj.W B5.out
    cases q7
    case false =>
     have hnm:ob∉childs t op:=fun hm=>by
      have:=List.any_eq_false.1 HQ7.out ob hm
      simp at this
     obtain rfl:=H5.out HNO.out HNM.out (by first|rfl|trivial) ⟨hb0,.inr hnm⟩
     go_wp2
     go_ret
     exact⟨rfl,HG.out.trans G5.out,fun h=>by cases h⟩
    have HNB:RowKit.Hid (¬ (ob≠0∧(ob=ou∨ob∉childs t op))):=fun h=>h.2.elim hbu (fun hm=>hm (by
     obtain⟨y,hy,e⟩:=List.any_eq_true.1 HQ7.out
     have:ob=y:=by simpa using e
     rw[this]
     exact hy))
    obtain⟨hf0,hn6⟩:=H6.out HNO.out HNM.out (by first|rfl|trivial) HNB.out
    have HN6:=Lib.hid hn6
    have hcan:=HCC.out (by unfold faultO;rw[if_neg (by show ¬ ok=1;rw[HK2.out];decide),if_pos HK2.out];exact hf0)
    have HCAN:=Lib.hid hcan
    clear hf0 hn6 hcan
    go_wp2_with fail
    refine(KT.out _ G5.out).mono ?_
    rintro e w6 ⟨rfl,hE6,hG6,hk6⟩
    have q3:=hk6 _ _ o3 (Nat.le_refl _)
    have q4:=hk6 _ _ o4 (Nat.le_refl _)
    have q5:=hk6 _ _ o5 (Nat.le_refl _)
    obtain⟨h7,g7,z7,v7,c7⟩:=HST.out w6 hE6 hG6 op
    have r3:=(World.cell?_setCell_far w6 ⟨B,i*6+1,none⟩ _ (.int .i64 op) HBW.out).trans q3
    have r4:=(World.cell?_setCell_far w6 ⟨B,i*6+1,none⟩ _ (.int .i64 op) HBW.out).trans q4
    have r5:=(World.cell?_setCell_far w6 ⟨B,i*6+1,none⟩ _ (.int .i64 op) HBW.out).trans q5
    have CP:=Lib.hid (movePut (o:=⟨oi,od,ok,ou,op,ob,ol,ot,om,oo,oa,on⟩) HS.out HCAN.out HUP.out h7 g7)
    dsimp only at CP
    clear o3 o4 o5 hE6 hG6 hk6 h7 g7
    dsimp only
    go_wp2_with fail
    refine(CP.out).mono ?_
    rintro e w9 ⟨rfl,hE9,hG9⟩
    have HE9:=Lib.hid hE9
    have HG9:=Lib.hid hG9
    have CL:=Lib.hid (moveLimit (o:=⟨oi,od,ok,ou,op,ob,ol,ot,om,oo,oa,on⟩) HS.out HCAN.out hE9 (HE.out.mono hG9))
    rw[← HN6.out] at CL
    clear hE9 hG9 r3 r4 r5 q3 q4 q5 CP z7 c7
    dsimp only
    go_wp2_with fail
    refine(CL.out).mono ?_
    rintro e w10 ⟨rfl,g10⟩
    have HG10:=Lib.hid g10
    clear g10
    dsimp only
    go_wp2
    go_ret
    exact⟨rfl,HG9.out.trans HG10.out,fun _=>⟨bv,HE9.out.grew HG10.out⟩⟩
end
end Go.Proofs.YtdochkemaiokfaaGreat