/- Lemmas on what the functions of the program and of the library compute: Es8. The conditions stand at each. -/
import Derived.Test.YtdochkemaiokfaaGreatQ14
/- The editor's create, walked. The conditions: the tree is right but for its depth; the library's own variables hold what they must. -/
namespace Go.Proofs.YtdochkemaiokfaaGreat
open Go.RowKit
theorem box_after {W w7:World} {bv v:Value} {a E i:Nat} {x:Value} (hk:∀ p x,W.cell? p=some x→some p.block≠bv.ownBlock→w7.cell? p=some x) (hne:some a≠bv.ownBlock) (hE:a≠E) (h:W.cell? ⟨a,i,none⟩=some x):(w7.setCell ⟨E,1,none⟩ v).cell? ⟨a,i,none⟩=some x:=by
 rw[World.cell?_setCell_far _ _ _ _ (fun e=>hE e.symm)]
 exact hk _ _ h hne
theorem kidsHas {base E:Nat} {bv:Value} {t:Tr} {w:World} {p:Int} {a:Addr} {kv:Value} (h:KAt base E bv t p a kv w) (x:Int) (W:World) (hW:Grew w W) :
  Calls Tryz.prog 35 #[kv,.int .i64 x] W fun e w'=>e=.returned (.bool ((childs t p).any fun y=>(x == y)))∧W=w':=containsI _ x kv W ((show SlI w kv _ from Rd.of_own h.own).mono hW)
section
variable {w0:World} {E:Nat} {bv:Value} {t:Tr} {w:World}
set_option maxHeartbeats 16000000 in
set_option maxRecDepth 100000 in
theorem edCreate (h:EdB w0.heap.size E bv t w) (hG:Grew w0 w) (hEnv:Env w0) (hS:SoundM t) (o:Opn) (hf:formedO o=true) (hk1:o.kind=1) :
  Calls Tryz.prog 92 #[.pointer (some ⟨E,0,none⟩),o.agg] w (MEnd w0 E (createT t o) (resC t o)):=by
 have hT:=tok_of hS
 have HC:=Lib.hid (fun W (hW:Grew (w.alloc (.cells o.cells.toArray 26)) W)=>opn_cells o hW)
 have HG:=Lib.hid hG
 have KF:=Lib.hid (fun W (hW:Grew w W)=>edFind (h.grew hW) hT.asc hT.len o.unit)
 obtain⟨A,hA,hBr⟩:=edBranchR h hT o.parent
 have KB:=Lib.hid hBr
 have KS:=Lib.hid (fun hp W (hW:Grew w W)=>edStands (h.grew hW) hT o.parent o.level hp)
 have KU:=Lib.hid (fun W (hW:Grew w W)=>edUsed (h.grew hW) hT o.mark 0)
 have HKA:=Lib.hid (fun hp=>edKidsAt h hT.asc hT.len (p:=o.parent) hp)
 obtain⟨n,hn⟩:∃ n,resC t o=n:=⟨_,rfl⟩
 have H1:=Lib.hid (fun a=>hn.symm.trans (resC_1 a))
 have H2:=Lib.hid (fun a b=>hn.symm.trans (resC_2 a b))
 have H3:=Lib.hid (fun a b c=>hn.symm.trans (resC_3 a b c))
 have H4:=Lib.hid (fun a b c d=>hn.symm.trans (resC_4 a b c d))
 have H5:=Lib.hid (fun a b c d e=>hn.symm.trans (resC_5 a b c d e))
 have H6:=Lib.hid (fun a b c d e f=>hn.symm.trans (resC_6 a b c d e f))
 have H7:=Lib.hid (fun a b c d e f=>(show _∧_ from⟨(resC_7 a b c d e f).1,hn.symm.trans (resC_7 a b c d e f).2⟩))
 have HK1:=Lib.hid hk1
 have HCC:=Lib.hid (fun h0=>can_create hS hf hk1 h0)
 have HFP:RowKit.Hid (¬ (o.parent≠0∧(brFind t.brs o.parent).isSome=false)→(o.parent=0∨∃ b,brFind t.brs o.parent=some b)∧(o.parent=0∨∃ b∈t.brs,b.id=o.parent)):=fun hno=>by
  by_cases h0:o.parent=0
  ·exact⟨.inl h0,.inl h0⟩
  ·cases hb:brFind t.brs o.parent with
   | none=>exact absurd ⟨h0,by rw[hb];rfl⟩ hno
   | some b=>exact⟨.inr ⟨b,rfl⟩,.inr ⟨b,(find_in hb).1,(find_in hb).2⟩⟩
 rw[hn]
 have HH:=Lib.hid h
 have HS:=Lib.hid hS
 have HE:=Lib.hid hEnv
 have HT:=Lib.hid hT
 obtain⟨rv,hrr,hbb,ce0,ce1,-,-⟩:=h.reads
 obtain⟨Abv,cbv,hbv,hlbv,hcbv,-⟩:=hbb.open_
 unfold maxLen at hcbv
 rw[hbv] at ce1
 have CE1:=Lib.hid ce1
 have HBV:=Lib.hid hbv
 clear h hG hEnv hS hf hk1 hn hBr hT hrr hbb ce0 ce1 hbv
 generalize hq1:(brFind t.brs o.unit).isSome=q1 at KF H1 H2 H3 H4 H5 H6 H7
 generalize hq2:(brFind t.brs o.parent).isSome=q2 at hA H2 H3 H4 H5 H6 H7 HFP
 generalize hpo:posF t.brs o.unit=po at KF
 have HPO:=Lib.hid hpo
 clear hq1 hq2 hpo
 obtain⟨oi,od,ok,ou,op,ob,ol,ot,om,oo,oa,on⟩:=o
 unfold Opn.agg
 dsimp only [Opn.cells] at KF KB KS KU HKA HC H1 H2 H3 H4 H5 H6 H7 HFP ⊢
 go_enter Tryz.func92,Tryz.ntmps92
 go_wp2_with fail
 refine(KF.out _ ((Grew.refl w).alloc _)).mono ?_
 rintro e w1 ⟨rfl,g1⟩
 have B1:=Lib.hid g1
 have G1:=Lib.hid (((Grew.refl w).alloc _).trans g1)
 obtain⟨o3,o4,o5,o6,o7,o8⟩:=HC.out w1 g1
 clear g1
 dsimp only
 cases q1
 case true =>
  obtain rfl:=H1.out (by first|rfl|trivial)
  go_wp2
  go_ret
  exact⟨rfl,HG.out.trans G1.out,fun h=>by cases h⟩
 -- the parent
 by_cases hz:op=0
 ·subst hz
  have HNO:RowKit.Hid (¬ ((0:Int)≠0∧q2=false)):=fun h=>h.1 rfl
  obtain⟨hp1,hp2⟩:=HFP.out HNO.out
  have KSS:=Lib.hid (KS.out hp1)
  obtain⟨ab,ao,kv,hkat,hKK⟩:=HKA.out hp2
  have HKAT:=Lib.hid hkat
  have KK:=Lib.hid hKK
  clear hkat hKK
  generalize hq3:standsB t 0 ol=q3 at KSS H3 H4 H5 H6 H7
  clear hq3
  go_wp2_with fail
  refine(KSS.out _ G1.out).mono ?_
  rintro e w3 ⟨rfl,g3⟩
  have B3:=Lib.hid (B1.out.trans g3)
  have G3:=Lib.hid (G1.out.trans g3)
  clear g3 o3 o4 o5 o6 o7 o8
  obtain⟨o3,o4,o5,o6,o7,o8⟩:=HC.out w3 B3.out
  dsimp only
  cases q3
  case false =>
   obtain rfl:=H3.out (by first|rfl|trivial) HNO.out (by first|rfl|trivial)
   go_wp2
   go_ret
   exact⟨rfl,HG.out.trans G3.out,fun h=>by cases h⟩
  by_cases hb0:ob=0
  case pos =>
   subst hb0
   have HNB:RowKit.Hid (¬ ((0:Int)≠0∧(0:Int)∉childs t 0)):=fun h=>h.1 rfl
   go_wp2_with fail
   refine region_gr w3 (by kernel_rfl) (by kernel_rfl) (Grew.refl _) ?_
   have f5:=Gr.cell o5
   repeat (first|go_big_quiet_step (fail)|quiet_step (fail))
   refine wpQuiet_nil ?_
   intro _ hw'
   obtain⟨wi,rfl⟩:=hw'
   have g4:=wi.g
   clear f5
   have B4:=Lib.hid (B3.out.trans g4)
   have G4:=Lib.hid (G3.out.trans g4)
   clear g4 o3 o4 o5 o6 o7 o8
   obtain⟨o3,o4,o5,o6,o7,o8⟩:=HC.out wi.W B4.out
   generalize hq5:usedB t om 0=q5 at KU H5 H6 H7
   clear hq5
   go_wp2_with fail
   refine(KU.out _ G4.out).mono ?_
   rintro e w5 ⟨rfl,g5⟩
   have B5:=Lib.hid (B4.out.trans g5)
   have G5:=Lib.hid (G4.out.trans g5)
   clear g5 o3 o4 o5 o6 o7 o8
   obtain⟨o3,o4,o5,o6,o7,o8⟩:=HC.out w5 B5.out
   dsimp only
   cases q5
   case true =>
    obtain rfl:=H5.out (by first|rfl|trivial) HNO.out (by first|rfl|trivial) HNB.out (by first|rfl|trivial)
    go_wp2
    go_ret
    exact⟨rfl,HG.out.trans G5.out,fun h=>by cases h⟩
   have ce1:=keep_cell G5.out CE1.out
   by_cases h6:256≤t.brs.length
   case pos =>
    obtain rfl:=H6.out (by first|rfl|trivial) HNO.out (by first|rfl|trivial) HNB.out (by first|rfl|trivial) h6
    have h6z:(256:Int)≤(t.brs.length:Int):=by omega
    go_wp2
    go_ret
    exact⟨rfl,HG.out.trans G5.out,fun h=>by cases h⟩
   have h6z:¬ (256:Int)≤(t.brs.length:Int):=by omega
   obtain⟨hf0,hn7⟩:=H7.out (by first|rfl|trivial) HNO.out (by first|rfl|trivial) HNB.out (by first|rfl|trivial) h6
   have HN7:=Lib.hid hn7
   have hcan:=HCC.out (by unfold faultO;rw[if_pos HK1.out];exact hf0)
   have HCAN:=Lib.hid hcan
   clear hf0 hn7 hcan h6
   go_wp2_with fail
   have HEU:=Lib.hid (HH.out.grew (G5.out.alloc (.cells [.int .i64 ou,.int .i64 0,.int .i64 ol,.string ot,.string om].toArray 64)))
   have GU:=Lib.hid (G5.out.alloc (.cells [.int .i64 ou,.int .i64 0,.int .i64 ol,.string ot,.string om].toArray 64))
   have BU:=Lib.hid (B5.out.alloc (.cells [.int .i64 ou,.int .i64 0,.int .i64 ol,.string ot,.string om].toArray 64))
   have u0:=new_cell (Grew.refl (w5.alloc (.cells [.int .i64 ou,.int .i64 0,.int .i64 ol,.string ot,.string om].toArray 64))) 0 _ rfl
   have u1:=new_cell (Grew.refl (w5.alloc (.cells [.int .i64 ou,.int .i64 0,.int .i64 ol,.string ot,.string om].toArray 64))) 1 _ rfl
   have u2:=new_cell (Grew.refl (w5.alloc (.cells [.int .i64 ou,.int .i64 0,.int .i64 ol,.string ot,.string om].toArray 64))) 2 _ rfl
   have u3:=new_cell (Grew.refl (w5.alloc (.cells [.int .i64 ou,.int .i64 0,.int .i64 ol,.string ot,.string om].toArray 64))) 3 _ rfl
   have u4:=new_cell (Grew.refl (w5.alloc (.cells [.int .i64 ou,.int .i64 0,.int .i64 ol,.string ot,.string om].toArray 64))) 4 _ rfl
   have eu1:=keep_cell GU.out CE1.out
   have fu1:(w5.alloc (.cells [.int .i64 ou,.int .i64 0,.int .i64 ol,.string ot,.string om].toArray 64)).frozen? ⟨E,1,none⟩=false:=by
    obtain⟨rv',cs',hE'⟩:=HEU.out
    exact hE'.cells.2.2.2
   clear o3 o4 o5 o6 o7 o8 ce1
   generalize (w5.alloc (.cells [.int .i64 ou,.int .i64 0,.int .i64 ol,.string ot,.string om].toArray 64))=WU at HEU GU BU u0 u1 u2 u3 u4 eu1 fu1 ⊢
   have HINS:=Lib.hid (fun W (hW:Grew WU W) hv=>createIns (o:=⟨oi,od,ok,ou,0,0,ol,ot,om,oo,oa,on⟩) HS.out HEU.out (HG.out.trans GU.out) W hW hv)
   dsimp only [newBr,Br.c,BrC.cells] at HINS
   rw[HPO.out,HBV.out] at HINS
   have HCALL:=Lib.hid (HINS.out (WU.alloc (.cells #[.int .i64 ou,.int .i64 0,.int .i64 ol,.string ot,.string om,.slice none 0 0] 66)).drew (((Grew.refl WU).alloc _).drew) (by show(WU.alloc _).heap[_]? = _;exact World.alloc_heap_new WU _))
   clear HINS
   obtain⟨o3,o4,o5,-,-,-⟩:=HC.out WU BU.out
   have hab:some w.heap.size≠(Value.slice Abv t.brs.length cbv).ownBlock:=fun e=>by
    obtain⟨rvh,csh,hEh⟩:=HH.out
    have hEb:=hEh.brs
    rw[HBV.out] at hEb
    have:=(hEb.lt _ e.symm).2
    omega
   have haE:w.heap.size≠E:=fun e=>by
    have:=World.block_lt_of_cell? w _ CE1.out
    rw[e] at this
    exact Nat.lt_irrefl _ this
   have HCB:=Lib.hid (fun(w7:World) (v:Value) (hk:∀ p x,(WU.alloc (.cells #[.int .i64 ou,.int .i64 0,.int .i64 ol,.string ot,.string om,.slice none 0 0] 66)).drew.cell? p=some x→some p.block≠(Value.slice Abv t.brs.length cbv).ownBlock→w7.cell? p=some x)=>(show _∧_∧_ from⟨box_after (v:=v) hk hab haE (keep_cell (((Grew.refl WU).alloc _).drew) o3),box_after (v:=v) hk hab haE (keep_cell (((Grew.refl WU).alloc _).drew) o4),box_after (v:=v) hk hab haE (keep_cell (((Grew.refl WU).alloc _).drew) o5)⟩))
   clear o3 o4 o5 hab haE
   have eu1a:=keep_cell (((Grew.refl WU).alloc (.cells #[.int .i64 ou,.int .i64 0,.int .i64 ol,.string ot,.string om,.slice none 0 0] 66))) eu1
   have eu1b:=keep_cell (((Grew.refl WU).alloc (.cells #[.int .i64 ou,.int .i64 0,.int .i64 ol,.string ot,.string om,.slice none 0 0] 66)).drew) eu1
   go_region_with (first|(go_at_call 133;go_loud (refine(HCALL.out).mono ?_;rintro e w7 ⟨A7,n7,c7,rfl,hE8,hG8,hz7,hc7,hk7⟩;have HE8:=Lib.hid hE8;have HG8:=Lib.hid hG8;have HK7:=Lib.hid hk7;clear hE8 hG8 hk7;dsimp only)))
   all_goals
    obtain⟨bv8,hE8⟩:=HE8.out
    have p1:=HCB.out w7 (.slice A7 n7 c7) HK7.out
    obtain⟨c3,c4,c5⟩:=p1
    have HG8':=HG8
    clear HE8 HG8 HK7 hz7 hc7
    generalize (w7.setCell ⟨E,1,none⟩ (.slice A7 n7 c7))=W8 at hE8 HG8' c3 c4 c5 ⊢
    have CP:=Lib.hid (createPut (o:=⟨oi,od,ok,ou,0,0,ol,ot,om,oo,oa,on⟩) HS.out HCAN.out hE8 HG8'.out)
    dsimp only at CP
    clear hE8
    go_wp2_with fail
    refine(CP.out).mono ?_
    rintro e w9 ⟨rfl,hE9,hG9⟩
    have HE9:=Lib.hid hE9
    have HG9:=Lib.hid hG9
    have CL:=Lib.hid (createLimit (o:=⟨oi,od,ok,ou,0,0,ol,ot,om,oo,oa,on⟩) HS.out HCAN.out hE9 (HE.out.mono hG9))
    rw[← HN7.out] at CL
    clear hE9 hG9 c3 c4 c5 CP
    dsimp only
    go_wp2_with fail
    refine(CL.out).mono ?_
    rintro e w10 ⟨rfl,g10⟩
    have HG10:=Lib.hid g10
    clear g10
    dsimp only
    go_wp2
    go_ret
    exact⟨rfl,HG9.out.trans HG10.out,fun _=>⟨bv8,HE9.out.grew HG10.out⟩⟩
  case neg =>
   have hb0':(ob != 0)=true:=by simpa using hb0
   have hk3:=HKAT.out.grew G3.out
   have hkc:=kidsHas hk3 ob
   obtain⟨q4,hq4⟩:∃ q,(childs t 0).any (fun y=>(ob == y))=q:=⟨_,rfl⟩
   rw[hq4] at hkc
   have HKi:=Lib.hid (fun i:Gr w3=>hkc i.W i.g)
   have KKi:=Lib.hid (fun i:Gr w3=>KK.out i.W (G3.out.trans i.g))
   have HQ4:=Lib.hid hq4
   clear hkc hq4 KK
   obtain⟨Ak,ck,rfl⟩:=own_slice hk3.own
   have f6:=Gr.cell hk3.cell
   generalize (childs t 0).length=Lk at f6 HKi
   clear hk3 HKAT
   go_wp2_with fail
   refine region_gr w3 (by kernel_rfl) (by kernel_rfl) (Grew.refl _) ?_
   have f5:=Gr.cell o5
   have f4:=Gr.cell o4
   repeat (first|go_big_quiet_step (first|(with_reducible exact Gr.calls _ (KKi.out _))|(with_reducible exact Gr.same _ (HKi.out _)))|quiet_step (first|(with_reducible exact Gr.calls _ (KKi.out _))|(with_reducible exact Gr.same _ (HKi.out _))))
   refine wpQuiet_nil ?_
   intro _ hw'
   obtain⟨wi,rfl⟩:=hw'
   have g4:=wi.g
   clear f5 f4 f6 KKi HKi
   have B4:=Lib.hid (B3.out.trans g4)
   have G4:=Lib.hid (G3.out.trans g4)
   clear g4 o3 o4 o5 o6 o7 o8
   obtain⟨o3,o4,o5,o6,o7,o8⟩:=HC.out wi.W B4.out
   cases q4
   case false =>
    have hnm:ob∉childs t 0:=fun hm=>by
     have:=List.any_eq_false.1 HQ4.out ob hm
     simp at this
    obtain rfl:=H4.out (by first|rfl|trivial) HNO.out (by first|rfl|trivial) ⟨hb0,hnm⟩
    go_wp2
    go_ret
    exact⟨rfl,HG.out.trans G4.out,fun h=>by cases h⟩
   have HNB:RowKit.Hid (¬ (ob≠0∧ob∉childs t 0)):=fun h=>h.2 (by
    obtain⟨y,hy,e⟩:=List.any_eq_true.1 HQ4.out
    have:ob=y:=by simpa using e
    rw[this]
    exact hy)
   generalize hq5:usedB t om 0=q5 at KU H5 H6 H7
   clear hq5
   go_wp2_with fail
   refine(KU.out _ G4.out).mono ?_
   rintro e w5 ⟨rfl,g5⟩
   have B5:=Lib.hid (B4.out.trans g5)
   have G5:=Lib.hid (G4.out.trans g5)
   clear g5 o3 o4 o5 o6 o7 o8
   obtain⟨o3,o4,o5,o6,o7,o8⟩:=HC.out w5 B5.out
   dsimp only
   cases q5
   case true =>
    obtain rfl:=H5.out (by first|rfl|trivial) HNO.out (by first|rfl|trivial) HNB.out (by first|rfl|trivial)
    go_wp2
    go_ret
    exact⟨rfl,HG.out.trans G5.out,fun h=>by cases h⟩
   have ce1:=keep_cell G5.out CE1.out
   by_cases h6:256≤t.brs.length
   case pos =>
    obtain rfl:=H6.out (by first|rfl|trivial) HNO.out (by first|rfl|trivial) HNB.out (by first|rfl|trivial) h6
    have h6z:(256:Int)≤(t.brs.length:Int):=by omega
    go_wp2
    go_ret
    exact⟨rfl,HG.out.trans G5.out,fun h=>by cases h⟩
   have h6z:¬ (256:Int)≤(t.brs.length:Int):=by omega
   obtain⟨hf0,hn7⟩:=H7.out (by first|rfl|trivial) HNO.out (by first|rfl|trivial) HNB.out (by first|rfl|trivial) h6
   have HN7:=Lib.hid hn7
   have hcan:=HCC.out (by unfold faultO;rw[if_pos HK1.out];exact hf0)
   have HCAN:=Lib.hid hcan
   clear hf0 hn7 hcan h6
   go_wp2_with fail
   have HEU:=Lib.hid (HH.out.grew (G5.out.alloc (.cells [.int .i64 ou,.int .i64 0,.int .i64 ol,.string ot,.string om].toArray 64)))
   have GU:=Lib.hid (G5.out.alloc (.cells [.int .i64 ou,.int .i64 0,.int .i64 ol,.string ot,.string om].toArray 64))
   have BU:=Lib.hid (B5.out.alloc (.cells [.int .i64 ou,.int .i64 0,.int .i64 ol,.string ot,.string om].toArray 64))
   have u0:=new_cell (Grew.refl (w5.alloc (.cells [.int .i64 ou,.int .i64 0,.int .i64 ol,.string ot,.string om].toArray 64))) 0 _ rfl
   have u1:=new_cell (Grew.refl (w5.alloc (.cells [.int .i64 ou,.int .i64 0,.int .i64 ol,.string ot,.string om].toArray 64))) 1 _ rfl
   have u2:=new_cell (Grew.refl (w5.alloc (.cells [.int .i64 ou,.int .i64 0,.int .i64 ol,.string ot,.string om].toArray 64))) 2 _ rfl
   have u3:=new_cell (Grew.refl (w5.alloc (.cells [.int .i64 ou,.int .i64 0,.int .i64 ol,.string ot,.string om].toArray 64))) 3 _ rfl
   have u4:=new_cell (Grew.refl (w5.alloc (.cells [.int .i64 ou,.int .i64 0,.int .i64 ol,.string ot,.string om].toArray 64))) 4 _ rfl
   have eu1:=keep_cell GU.out CE1.out
   have fu1:(w5.alloc (.cells [.int .i64 ou,.int .i64 0,.int .i64 ol,.string ot,.string om].toArray 64)).frozen? ⟨E,1,none⟩=false:=by
    obtain⟨rv',cs',hE'⟩:=HEU.out
    exact hE'.cells.2.2.2
   clear o3 o4 o5 o6 o7 o8 ce1
   generalize (w5.alloc (.cells [.int .i64 ou,.int .i64 0,.int .i64 ol,.string ot,.string om].toArray 64))=WU at HEU GU BU u0 u1 u2 u3 u4 eu1 fu1 ⊢
   have HINS:=Lib.hid (fun W (hW:Grew WU W) hv=>createIns (o:=⟨oi,od,ok,ou,0,ob,ol,ot,om,oo,oa,on⟩) HS.out HEU.out (HG.out.trans GU.out) W hW hv)
   dsimp only [newBr,Br.c,BrC.cells] at HINS
   rw[HPO.out,HBV.out] at HINS
   have HCALL:=Lib.hid (HINS.out (WU.alloc (.cells #[.int .i64 ou,.int .i64 0,.int .i64 ol,.string ot,.string om,.slice none 0 0] 66)).drew (((Grew.refl WU).alloc _).drew) (by show(WU.alloc _).heap[_]? = _;exact World.alloc_heap_new WU _))
   clear HINS
   obtain⟨o3,o4,o5,-,-,-⟩:=HC.out WU BU.out
   have hab:some w.heap.size≠(Value.slice Abv t.brs.length cbv).ownBlock:=fun e=>by
    obtain⟨rvh,csh,hEh⟩:=HH.out
    have hEb:=hEh.brs
    rw[HBV.out] at hEb
    have:=(hEb.lt _ e.symm).2
    omega
   have haE:w.heap.size≠E:=fun e=>by
    have:=World.block_lt_of_cell? w _ CE1.out
    rw[e] at this
    exact Nat.lt_irrefl _ this
   have HCB:=Lib.hid (fun(w7:World) (v:Value) (hk:∀ p x,(WU.alloc (.cells #[.int .i64 ou,.int .i64 0,.int .i64 ol,.string ot,.string om,.slice none 0 0] 66)).drew.cell? p=some x→some p.block≠(Value.slice Abv t.brs.length cbv).ownBlock→w7.cell? p=some x)=>(show _∧_∧_ from⟨box_after (v:=v) hk hab haE (keep_cell (((Grew.refl WU).alloc _).drew) o3),box_after (v:=v) hk hab haE (keep_cell (((Grew.refl WU).alloc _).drew) o4),box_after (v:=v) hk hab haE (keep_cell (((Grew.refl WU).alloc _).drew) o5)⟩))
   clear o3 o4 o5 hab haE
   have eu1a:=keep_cell (((Grew.refl WU).alloc (.cells #[.int .i64 ou,.int .i64 0,.int .i64 ol,.string ot,.string om,.slice none 0 0] 66))) eu1
   have eu1b:=keep_cell (((Grew.refl WU).alloc (.cells #[.int .i64 ou,.int .i64 0,.int .i64 ol,.string ot,.string om,.slice none 0 0] 66)).drew) eu1
   go_region_with (first|(go_at_call 133;go_loud (refine(HCALL.out).mono ?_;rintro e w7 ⟨A7,n7,c7,rfl,hE8,hG8,hz7,hc7,hk7⟩;have HE8:=Lib.hid hE8;have HG8:=Lib.hid hG8;have HK7:=Lib.hid hk7;clear hE8 hG8 hk7;dsimp only)))
   all_goals
    obtain⟨bv8,hE8⟩:=HE8.out
    have p1:=HCB.out w7 (.slice A7 n7 c7) HK7.out
    obtain⟨c3,c4,c5⟩:=p1
    have HG8':=HG8
    clear HE8 HG8 HK7 hz7 hc7
    generalize (w7.setCell ⟨E,1,none⟩ (.slice A7 n7 c7))=W8 at hE8 HG8' c3 c4 c5 ⊢
    have CP:=Lib.hid (createPut (o:=⟨oi,od,ok,ou,0,ob,ol,ot,om,oo,oa,on⟩) HS.out HCAN.out hE8 HG8'.out)
    dsimp only at CP
    clear hE8
    go_wp2_with fail
    refine(CP.out).mono ?_
    rintro e w9 ⟨rfl,hE9,hG9⟩
    have HE9:=Lib.hid hE9
    have HG9:=Lib.hid hG9
    have CL:=Lib.hid (createLimit (o:=⟨oi,od,ok,ou,0,ob,ol,ot,om,oo,oa,on⟩) HS.out HCAN.out hE9 (HE.out.mono hG9))
    rw[← HN7.out] at CL
    clear hE9 hG9 c3 c4 c5 CP
    dsimp only
    go_wp2_with fail
    refine(CL.out).mono ?_
    rintro e w10 ⟨rfl,g10⟩
    have HG10:=Lib.hid g10
    clear g10
    dsimp only
    go_wp2
    go_ret
    exact⟨rfl,HG9.out.trans HG10.out,fun _=>⟨bv8,HE9.out.grew HG10.out⟩⟩
 ·have hz':(op != 0)=true:=by simpa using hz
  go_wp2_with fail
  refine(KB.out _ G1.out).mono ?_
  rintro e w2 ⟨rfl,g2⟩
  have B2:=Lib.hid (B1.out.trans g2)
  have G2:=Lib.hid (G1.out.trans g2)
  clear g2 o3 o4 o5 o6 o7 o8
  obtain⟨o3,o4,o5,o6,o7,o8⟩:=HC.out w2 B2.out
  dsimp only
  cases A with
  | none =>
   obtain rfl:=H2.out (by first|rfl|trivial) ⟨hz,hA.symm⟩
   go_wp2
   go_ret
   exact⟨rfl,HG.out.trans G2.out,fun h=>by cases h⟩
  | some a =>
   obtain rfl:q2=true:=hA.symm
   have HNO:RowKit.Hid (¬ (op≠0∧true=false)):=fun h=>by have:=h.2;cases this
   obtain⟨hp1,hp2⟩:=HFP.out HNO.out
   have KSS:=Lib.hid (KS.out hp1)
   obtain⟨ab,ao,kv,hkat,hKK⟩:=HKA.out hp2
   have HKAT:=Lib.hid hkat
   have KK:=Lib.hid hKK
   clear hkat hKK
   generalize hq3:standsB t op ol=q3 at KSS H3 H4 H5 H6 H7
   clear hq3
   go_wp2_with fail
   refine(KSS.out _ G2.out).mono ?_
   rintro e w3 ⟨rfl,g3⟩
   have B3:=Lib.hid (B2.out.trans g3)
   have G3:=Lib.hid (G2.out.trans g3)
   clear g3 o3 o4 o5 o6 o7 o8
   obtain⟨o3,o4,o5,o6,o7,o8⟩:=HC.out w3 B3.out
   dsimp only
   cases q3
   case false =>
    obtain rfl:=H3.out (by first|rfl|trivial) HNO.out (by first|rfl|trivial)
    go_wp2
    go_ret
    exact⟨rfl,HG.out.trans G3.out,fun h=>by cases h⟩
   by_cases hb0:ob=0
   case pos =>
    subst hb0
    have HNB:RowKit.Hid (¬ ((0:Int)≠0∧(0:Int)∉childs t op)):=fun h=>h.1 rfl
    go_wp2_with fail
    refine region_gr w3 (by kernel_rfl) (by kernel_rfl) (Grew.refl _) ?_
    have f5:=Gr.cell o5
    repeat (first|go_big_quiet_step (fail)|quiet_step (fail))
    refine wpQuiet_nil ?_
    intro _ hw'
    obtain⟨wi,rfl⟩:=hw'
    have g4:=wi.g
    clear f5
    have B4:=Lib.hid (B3.out.trans g4)
    have G4:=Lib.hid (G3.out.trans g4)
    clear g4 o3 o4 o5 o6 o7 o8
    obtain⟨o3,o4,o5,o6,o7,o8⟩:=HC.out wi.W B4.out
    generalize hq5:usedB t om 0=q5 at KU H5 H6 H7
    clear hq5
    go_wp2_with fail
    refine(KU.out _ G4.out).mono ?_
    rintro e w5 ⟨rfl,g5⟩
    have B5:=Lib.hid (B4.out.trans g5)
    have G5:=Lib.hid (G4.out.trans g5)
    clear g5 o3 o4 o5 o6 o7 o8
    obtain⟨o3,o4,o5,o6,o7,o8⟩:=HC.out w5 B5.out
    dsimp only
    cases q5
    case true =>
     obtain rfl:=H5.out (by first|rfl|trivial) HNO.out (by first|rfl|trivial) HNB.out (by first|rfl|trivial)
     go_wp2
     go_ret
     exact⟨rfl,HG.out.trans G5.out,fun h=>by cases h⟩
    have ce1:=keep_cell G5.out CE1.out
    by_cases h6:256≤t.brs.length
    case pos =>
     obtain rfl:=H6.out (by first|rfl|trivial) HNO.out (by first|rfl|trivial) HNB.out (by first|rfl|trivial) h6
     have h6z:(256:Int)≤(t.brs.length:Int):=by omega
     go_wp2
     go_ret
     exact⟨rfl,HG.out.trans G5.out,fun h=>by cases h⟩
    have h6z:¬ (256:Int)≤(t.brs.length:Int):=by omega
    obtain⟨hf0,hn7⟩:=H7.out (by first|rfl|trivial) HNO.out (by first|rfl|trivial) HNB.out (by first|rfl|trivial) h6
    have HN7:=Lib.hid hn7
    have hcan:=HCC.out (by unfold faultO;rw[if_pos HK1.out];exact hf0)
    have HCAN:=Lib.hid hcan
    clear hf0 hn7 hcan h6
    go_wp2_with fail
    have HEU:=Lib.hid (HH.out.grew (G5.out.alloc (.cells [.int .i64 ou,.int .i64 op,.int .i64 ol,.string ot,.string om].toArray 64)))
    have GU:=Lib.hid (G5.out.alloc (.cells [.int .i64 ou,.int .i64 op,.int .i64 ol,.string ot,.string om].toArray 64))
    have BU:=Lib.hid (B5.out.alloc (.cells [.int .i64 ou,.int .i64 op,.int .i64 ol,.string ot,.string om].toArray 64))
    have u0:=new_cell (Grew.refl (w5.alloc (.cells [.int .i64 ou,.int .i64 op,.int .i64 ol,.string ot,.string om].toArray 64))) 0 _ rfl
    have u1:=new_cell (Grew.refl (w5.alloc (.cells [.int .i64 ou,.int .i64 op,.int .i64 ol,.string ot,.string om].toArray 64))) 1 _ rfl
    have u2:=new_cell (Grew.refl (w5.alloc (.cells [.int .i64 ou,.int .i64 op,.int .i64 ol,.string ot,.string om].toArray 64))) 2 _ rfl
    have u3:=new_cell (Grew.refl (w5.alloc (.cells [.int .i64 ou,.int .i64 op,.int .i64 ol,.string ot,.string om].toArray 64))) 3 _ rfl
    have u4:=new_cell (Grew.refl (w5.alloc (.cells [.int .i64 ou,.int .i64 op,.int .i64 ol,.string ot,.string om].toArray 64))) 4 _ rfl
    have eu1:=keep_cell GU.out CE1.out
    have fu1:(w5.alloc (.cells [.int .i64 ou,.int .i64 op,.int .i64 ol,.string ot,.string om].toArray 64)).frozen? ⟨E,1,none⟩=false:=by
     obtain⟨rv',cs',hE'⟩:=HEU.out
     exact hE'.cells.2.2.2
    clear o3 o4 o5 o6 o7 o8 ce1
    generalize (w5.alloc (.cells [.int .i64 ou,.int .i64 op,.int .i64 ol,.string ot,.string om].toArray 64))=WU at HEU GU BU u0 u1 u2 u3 u4 eu1 fu1 ⊢
    have HINS:=Lib.hid (fun W (hW:Grew WU W) hv=>createIns (o:=⟨oi,od,ok,ou,op,0,ol,ot,om,oo,oa,on⟩) HS.out HEU.out (HG.out.trans GU.out) W hW hv)
    dsimp only [newBr,Br.c,BrC.cells] at HINS
    rw[HPO.out,HBV.out] at HINS
    have HCALL:=Lib.hid (HINS.out (WU.alloc (.cells #[.int .i64 ou,.int .i64 op,.int .i64 ol,.string ot,.string om,.slice none 0 0] 66)).drew (((Grew.refl WU).alloc _).drew) (by show(WU.alloc _).heap[_]? = _;exact World.alloc_heap_new WU _))
    clear HINS
    obtain⟨o3,o4,o5,-,-,-⟩:=HC.out WU BU.out
    have hab:some w.heap.size≠(Value.slice Abv t.brs.length cbv).ownBlock:=fun e=>by
     obtain⟨rvh,csh,hEh⟩:=HH.out
     have hEb:=hEh.brs
     rw[HBV.out] at hEb
     have:=(hEb.lt _ e.symm).2
     omega
    have haE:w.heap.size≠E:=fun e=>by
     have:=World.block_lt_of_cell? w _ CE1.out
     rw[e] at this
     exact Nat.lt_irrefl _ this
    have HCB:=Lib.hid (fun(w7:World) (v:Value) (hk:∀ p x,(WU.alloc (.cells #[.int .i64 ou,.int .i64 op,.int .i64 ol,.string ot,.string om,.slice none 0 0] 66)).drew.cell? p=some x→some p.block≠(Value.slice Abv t.brs.length cbv).ownBlock→w7.cell? p=some x)=>(show _∧_∧_ from⟨box_after (v:=v) hk hab haE (keep_cell (((Grew.refl WU).alloc _).drew) o3),box_after (v:=v) hk hab haE (keep_cell (((Grew.refl WU).alloc _).drew) o4),box_after (v:=v) hk hab haE (keep_cell (((Grew.refl WU).alloc _).drew) o5)⟩))
    clear o3 o4 o5 hab haE
    have eu1a:=keep_cell (((Grew.refl WU).alloc (.cells #[.int .i64 ou,.int .i64 op,.int .i64 ol,.string ot,.string om,.slice none 0 0] 66))) eu1
    have eu1b:=keep_cell (((Grew.refl WU).alloc (.cells #[.int .i64 ou,.int .i64 op,.int .i64 ol,.string ot,.string om,.slice none 0 0] 66)).drew) eu1
    go_region_with (first|(go_at_call 133;go_loud (refine(HCALL.out).mono ?_;rintro e w7 ⟨A7,n7,c7,rfl,hE8,hG8,hz7,hc7,hk7⟩;have HE8:=Lib.hid hE8;have HG8:=Lib.hid hG8;have HK7:=Lib.hid hk7;clear hE8 hG8 hk7;dsimp only)))
    all_goals
     obtain⟨bv8,hE8⟩:=HE8.out
     have p1:=HCB.out w7 (.slice A7 n7 c7) HK7.out
     obtain⟨c3,c4,c5⟩:=p1
     have HG8':=HG8
     clear HE8 HG8 HK7 hz7 hc7
     generalize (w7.setCell ⟨E,1,none⟩ (.slice A7 n7 c7))=W8 at hE8 HG8' c3 c4 c5 ⊢
     have CP:=Lib.hid (createPut (o:=⟨oi,od,ok,ou,op,0,ol,ot,om,oo,oa,on⟩) HS.out HCAN.out hE8 HG8'.out)
     dsimp only at CP
     clear hE8
     go_wp2_with fail
     refine(CP.out).mono ?_
     rintro e w9 ⟨rfl,hE9,hG9⟩
     have HE9:=Lib.hid hE9
     have HG9:=Lib.hid hG9
     have CL:=Lib.hid (createLimit (o:=⟨oi,od,ok,ou,op,0,ol,ot,om,oo,oa,on⟩) HS.out HCAN.out hE9 (HE.out.mono hG9))
     rw[← HN7.out] at CL
     clear hE9 hG9 c3 c4 c5 CP
     dsimp only
     go_wp2_with fail
     refine(CL.out).mono ?_
     rintro e w10 ⟨rfl,g10⟩
     have HG10:=Lib.hid g10
     clear g10
     dsimp only
     go_wp2
     go_ret
     exact⟨rfl,HG9.out.trans HG10.out,fun _=>⟨bv8,HE9.out.grew HG10.out⟩⟩
   case neg =>
    have hb0':(ob != 0)=true:=by simpa using hb0
    have hk3:=HKAT.out.grew G3.out
    have hkc:=kidsHas hk3 ob
    obtain⟨q4,hq4⟩:∃ q,(childs t op).any (fun y=>(ob == y))=q:=⟨_,rfl⟩
    rw[hq4] at hkc
    have HKi:=Lib.hid (fun i:Gr w3=>hkc i.W i.g)
    have KKi:=Lib.hid (fun i:Gr w3=>KK.out i.W (G3.out.trans i.g))
    have HQ4:=Lib.hid hq4
    clear hkc hq4 KK
    obtain⟨Ak,ck,rfl⟩:=own_slice hk3.own
    have f6:=Gr.cell hk3.cell
    generalize (childs t op).length=Lk at f6 HKi
    clear hk3 HKAT
    go_wp2_with fail
    refine region_gr w3 (by kernel_rfl) (by kernel_rfl) (Grew.refl _) ?_
    have f5:=Gr.cell o5
    have f4:=Gr.cell o4
    repeat (first|go_big_quiet_step (first|(with_reducible exact Gr.calls _ (KKi.out _))|(with_reducible exact Gr.same _ (HKi.out _)))|quiet_step (first|(with_reducible exact Gr.calls _ (KKi.out _))|(with_reducible exact Gr.same _ (HKi.out _))))
    refine wpQuiet_nil ?_
    intro _ hw'
    obtain⟨wi,rfl⟩:=hw'
    have g4:=wi.g
    clear f5 f4 f6 KKi HKi
    have B4:=Lib.hid (B3.out.trans g4)
    have G4:=Lib.hid (G3.out.trans g4)
    clear g4 o3 o4 o5 o6 o7 o8
    obtain⟨o3,o4,o5,o6,o7,o8⟩:=HC.out wi.W B4.out
    cases q4
    case false =>
     have hnm:ob∉childs t op:=fun hm=>by
      have:=List.any_eq_false.1 HQ4.out ob hm
      simp at this
     obtain rfl:=H4.out (by first|rfl|trivial) HNO.out (by first|rfl|trivial) ⟨hb0,hnm⟩
     go_wp2
     go_ret
     exact⟨rfl,HG.out.trans G4.out,fun h=>by cases h⟩
    have HNB:RowKit.Hid (¬ (ob≠0∧ob∉childs t op)):=fun h=>h.2 (by
     obtain⟨y,hy,e⟩:=List.any_eq_true.1 HQ4.out
     have:ob=y:=by simpa using e
     rw[this]
     exact hy)
    generalize hq5:usedB t om 0=q5 at KU H5 H6 H7
    clear hq5
    go_wp2_with fail
    refine(KU.out _ G4.out).mono ?_
    rintro e w5 ⟨rfl,g5⟩
    have B5:=Lib.hid (B4.out.trans g5)
    have G5:=Lib.hid (G4.out.trans g5)
    clear g5 o3 o4 o5 o6 o7 o8
    obtain⟨o3,o4,o5,o6,o7,o8⟩:=HC.out w5 B5.out
    dsimp only
    cases q5
    case true =>
     obtain rfl:=H5.out (by first|rfl|trivial) HNO.out (by first|rfl|trivial) HNB.out (by first|rfl|trivial)
     go_wp2
     go_ret
     exact⟨rfl,HG.out.trans G5.out,fun h=>by cases h⟩
    have ce1:=keep_cell G5.out CE1.out
    by_cases h6:256≤t.brs.length
    case pos =>
     obtain rfl:=H6.out (by first|rfl|trivial) HNO.out (by first|rfl|trivial) HNB.out (by first|rfl|trivial) h6
     have h6z:(256:Int)≤(t.brs.length:Int):=by omega
     go_wp2
     go_ret
     exact⟨rfl,HG.out.trans G5.out,fun h=>by cases h⟩
    have h6z:¬ (256:Int)≤(t.brs.length:Int):=by omega
    obtain⟨hf0,hn7⟩:=H7.out (by first|rfl|trivial) HNO.out (by first|rfl|trivial) HNB.out (by first|rfl|trivial) h6
    have HN7:=Lib.hid hn7
    have hcan:=HCC.out (by unfold faultO;rw[if_pos HK1.out];exact hf0)
    have HCAN:=Lib.hid hcan
    clear hf0 hn7 hcan h6
    go_wp2_with fail
    have HEU:=Lib.hid (HH.out.grew (G5.out.alloc (.cells [.int .i64 ou,.int .i64 op,.int .i64 ol,.string ot,.string om].toArray 64)))
    have GU:=Lib.hid (G5.out.alloc (.cells [.int .i64 ou,.int .i64 op,.int .i64 ol,.string ot,.string om].toArray 64))
    have BU:=Lib.hid (B5.out.alloc (.cells [.int .i64 ou,.int .i64 op,.int .i64 ol,.string ot,.string om].toArray 64))
    have u0:=new_cell (Grew.refl (w5.alloc (.cells [.int .i64 ou,.int .i64 op,.int .i64 ol,.string ot,.string om].toArray 64))) 0 _ rfl
    have u1:=new_cell (Grew.refl (w5.alloc (.cells [.int .i64 ou,.int .i64 op,.int .i64 ol,.string ot,.string om].toArray 64))) 1 _ rfl
    have u2:=new_cell (Grew.refl (w5.alloc (.cells [.int .i64 ou,.int .i64 op,.int .i64 ol,.string ot,.string om].toArray 64))) 2 _ rfl
    have u3:=new_cell (Grew.refl (w5.alloc (.cells [.int .i64 ou,.int .i64 op,.int .i64 ol,.string ot,.string om].toArray 64))) 3 _ rfl
    have u4:=new_cell (Grew.refl (w5.alloc (.cells [.int .i64 ou,.int .i64 op,.int .i64 ol,.string ot,.string om].toArray 64))) 4 _ rfl
    have eu1:=keep_cell GU.out CE1.out
    have fu1:(w5.alloc (.cells [.int .i64 ou,.int .i64 op,.int .i64 ol,.string ot,.string om].toArray 64)).frozen? ⟨E,1,none⟩=false:=by
     obtain⟨rv',cs',hE'⟩:=HEU.out
     exact hE'.cells.2.2.2
    clear o3 o4 o5 o6 o7 o8 ce1
    generalize (w5.alloc (.cells [.int .i64 ou,.int .i64 op,.int .i64 ol,.string ot,.string om].toArray 64))=WU at HEU GU BU u0 u1 u2 u3 u4 eu1 fu1 ⊢
    have HINS:=Lib.hid (fun W (hW:Grew WU W) hv=>createIns (o:=⟨oi,od,ok,ou,op,ob,ol,ot,om,oo,oa,on⟩) HS.out HEU.out (HG.out.trans GU.out) W hW hv)
    dsimp only [newBr,Br.c,BrC.cells] at HINS
    rw[HPO.out,HBV.out] at HINS
    have HCALL:=Lib.hid (HINS.out (WU.alloc (.cells #[.int .i64 ou,.int .i64 op,.int .i64 ol,.string ot,.string om,.slice none 0 0] 66)).drew (((Grew.refl WU).alloc _).drew) (by show(WU.alloc _).heap[_]? = _;exact World.alloc_heap_new WU _))
    clear HINS
    obtain⟨o3,o4,o5,-,-,-⟩:=HC.out WU BU.out
    have hab:some w.heap.size≠(Value.slice Abv t.brs.length cbv).ownBlock:=fun e=>by
     obtain⟨rvh,csh,hEh⟩:=HH.out
     have hEb:=hEh.brs
     rw[HBV.out] at hEb
     have:=(hEb.lt _ e.symm).2
     omega
    have haE:w.heap.size≠E:=fun e=>by
     have:=World.block_lt_of_cell? w _ CE1.out
     rw[e] at this
     exact Nat.lt_irrefl _ this
    have HCB:=Lib.hid (fun(w7:World) (v:Value) (hk:∀ p x,(WU.alloc (.cells #[.int .i64 ou,.int .i64 op,.int .i64 ol,.string ot,.string om,.slice none 0 0] 66)).drew.cell? p=some x→some p.block≠(Value.slice Abv t.brs.length cbv).ownBlock→w7.cell? p=some x)=>(show _∧_∧_ from⟨box_after (v:=v) hk hab haE (keep_cell (((Grew.refl WU).alloc _).drew) o3),box_after (v:=v) hk hab haE (keep_cell (((Grew.refl WU).alloc _).drew) o4),box_after (v:=v) hk hab haE (keep_cell (((Grew.refl WU).alloc _).drew) o5)⟩))
    clear o3 o4 o5 hab haE
    have eu1a:=keep_cell (((Grew.refl WU).alloc (.cells #[.int .i64 ou,.int .i64 op,.int .i64 ol,.string ot,.string om,.slice none 0 0] 66))) eu1
    have eu1b:=keep_cell (((Grew.refl WU).alloc (.cells #[.int .i64 ou,.int .i64 op,.int .i64 ol,.string ot,.string om,.slice none 0 0] 66)).drew) eu1
    go_region_with (first|(go_at_call 133;go_loud (refine(HCALL.out).mono ?_;rintro e w7 ⟨A7,n7,c7,rfl,hE8,hG8,hz7,hc7,hk7⟩;have HE8:=Lib.hid hE8;have HG8:=Lib.hid hG8;have HK7:=Lib.hid hk7;clear hE8 hG8 hk7;dsimp only)))
    all_goals
     obtain⟨bv8,hE8⟩:=HE8.out
     have p1:=HCB.out w7 (.slice A7 n7 c7) HK7.out
     obtain⟨c3,c4,c5⟩:=p1
     have HG8':=HG8
     clear HE8 HG8 HK7 hz7 hc7
     generalize (w7.setCell ⟨E,1,none⟩ (.slice A7 n7 c7))=W8 at hE8 HG8' c3 c4 c5 ⊢
     have CP:=Lib.hid (createPut (o:=⟨oi,od,ok,ou,op,ob,ol,ot,om,oo,oa,on⟩) HS.out HCAN.out hE8 HG8'.out)
     dsimp only at CP
     clear hE8
     go_wp2_with fail
     refine(CP.out).mono ?_
     rintro e w9 ⟨rfl,hE9,hG9⟩
     have HE9:=Lib.hid hE9
     have HG9:=Lib.hid hG9
     have CL:=Lib.hid (createLimit (o:=⟨oi,od,ok,ou,op,ob,ol,ot,om,oo,oa,on⟩) HS.out HCAN.out hE9 (HE.out.mono hG9))
     rw[← HN7.out] at CL
     clear hE9 hG9 c3 c4 c5 CP
     dsimp only
     go_wp2_with fail
     refine(CL.out).mono ?_
     rintro e w10 ⟨rfl,g10⟩
     have HG10:=Lib.hid g10
     clear g10
     dsimp only
     go_wp2
     go_ret
     exact⟨rfl,HG9.out.trans HG10.out,fun _=>⟨bv8,HE9.out.grew HG10.out⟩⟩
end
end Go.Proofs.YtdochkemaiokfaaGreat