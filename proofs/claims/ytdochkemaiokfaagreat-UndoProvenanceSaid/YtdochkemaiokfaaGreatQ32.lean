/- Lemmas on what the functions of the program and of the library compute: UnF. The conditions stand at each. -/
import Derived.Deep.CutRange
import Derived.Deep.RegionHeld3
import Derived.BigQuiet
import Derived.Test.YtdochkemaiokfaaGreatQ29
import Derived.Test.YtdochkemaiokfaaGreatQ31
import Derived.Test.YtdochkemaiokfaaGreatQ20
/- undo: the keeper's fault, walked: the first fault of an operation but whether it can be applied. The conditions: the log is admitted; the library's own variables hold what they must; the numbers are numbers of an int. -/
namespace Go.Proofs.YtdochkemaiokfaaGreat
open Go.RowKit
open Classical in
noncomputable def faultP (l:List Opn) (o:Opn):Int :=
 if 512≤l.length then 8 else if formedO o=false then 1 else if lateB l o=true then 5
 else if o.kind=1∧(ofC (evidF l) o.unit).isSome=true then 6
 else if o.kind=1∧addE (evidF l) o.came≠0 then addE (evidF l) o.came
 else if marksB o=true∧(ownerF l o.mark).isSome=true∧(ownerF l o.mark).getD 0≠o.unit then 19
 else if o.kind=5∧(ofC (evidF l) o.unit).isSome=true∧((ofC (evidF l) o.unit).getD cm0).acc≠0 then 21
 else if o.kind=6 then(if (findO l o.unit).isSome=false then 7 else if ((findO l o.unit).getD opn0).kind=1∧((findO l o.unit).getD opn0).acc≠0∧((countI l).any fun q=>q.2.id == ((findO l o.unit).getD opn0).id)=true then 21 else 0)
 else 0
theorem fault_prog {l:List Opn} (h:AdmL l) (o:Opn):faultP l o=faultK l o:=by
 unfold faultP faultK
 by_cases h1:512≤l.length
 ·rw[if_pos h1,if_pos h1]
 rw[if_neg h1,if_neg h1]
 by_cases h2:formedO o=false
 ·rw[if_pos h2,if_pos h2]
 rw[if_neg h2,if_neg h2]
 by_cases h3:lateB l o=true
 ·rw[if_pos h3,if_pos h3]
 rw[if_neg h3,if_neg h3]
 have hf:formedO o=true:=by simpa using h2
 by_cases h4:o.kind=1∧(ofC (evidF l) o.unit).isSome=true
 ·have:=add_twice h hf h4.1 h4.2
  rw[if_pos h4,this,if_pos ⟨h4.1,by decide⟩]
 rw[if_neg h4]
 by_cases h5:o.kind=1∧addE (evidF l) o.came≠0
 ·rw[if_pos h5,if_pos h5]
 rw[if_neg h5,if_neg h5]
 have e6:(marksB o=true∧(ownerF l o.mark).isSome=true∧(ownerF l o.mark).getD 0≠o.unit)↔(marksB o && otherB l o)=true:=by
  unfold otherB
  cases ownerF l o.mark with
  | none=>simp
  | some u=>simp
 by_cases h6:(marksB o && otherB l o)=true
 ·rw[if_pos h6,if_pos (e6.2 h6)]
 rw[if_neg h6,if_neg (fun k=>h6 (e6.1 k))]
 have e7:(o.kind=5∧(ofC (evidF l) o.unit).isSome=true∧((ofC (evidF l) o.unit).getD cm0).acc≠0)↔(o.kind=5∧(evidF l).any (fun x=>x.unit == o.unit && x.acc != 0)=true):=by
  rw[held_any (evid_asc h)]
  cases ofC (evidF l) o.unit with
  | none=>simp
  | some u=>simp
 by_cases h7:o.kind=5∧(evidF l).any (fun x=>x.unit == o.unit && x.acc != 0)=true
 ·rw[if_pos h7,if_pos (e7.2 h7)]
 rw[if_neg h7,if_neg (fun k=>h7 (e7.1 k))]
 by_cases h8:o.kind=6
 ·rw[if_pos h8,if_pos h8]
  cases hx:findO l o.unit with
  | none=>rfl
  | some p =>
   have hp:=(find_op hx).1
   have hc:=counts_any (adm_ok h) hp
   dsimp only [Option.isSome_some,Option.getD_some]
   rw[if_neg (by decide)]
   by_cases hcnd:p.kind=1∧p.acc≠0∧countsB l p=true
   ·rw[if_pos hcnd,if_pos ⟨hcnd.1,hcnd.2.1,by rw[hc];exact hcnd.2.2⟩]
   ·rw[if_neg hcnd,if_neg (fun k=>hcnd ⟨k.1,k.2.1,by rw[← hc];exact k.2.2⟩)]
 ·rw[if_neg h8,if_neg h8]
def OfCut (WA:World) (R:Option Cm) (s1 s2:Value) (wx:World):Prop:=∃ X,s1=.pointer (some ⟨X,0,none⟩)∧s2=.bool R.isSome∧Aside (wx.cell? ⟨X,1,none⟩=some (.int .i64 (R.getD cm0).acc))∧Aside (Grew WA wx)
theorem of_meet {WA W:World} {R:Option Cm} {X:Nat} (hX:W.heap[X]? = some (.cells #[.int .i64 0,.int .i64 0,.int .i64 0] 24 (0,0))) (hlo:WA.heap.size≤X) (hG:Grew WA W):OfCut WA R (.pointer (some ⟨X,0,none⟩)) (.bool R.isSome) (((W.setCell ⟨X,0,none⟩ (.int .i64 (R.getD cm0).office)).setCell ⟨X,1,none⟩ (.int .i64 (R.getD cm0).acc)).setCell ⟨X,2,none⟩ (.int .i64 (R.getD cm0).num)):=by
 have hs:=set3 hX (.int .i64 (R.getD cm0).office) (.int .i64 (R.getD cm0).acc) (.int .i64 (R.getD cm0).num)
 exact⟨X,rfl,rfl,(show Aside _ from cellOf hs rfl),(show Aside _ from grew3B hG hlo _ _ _)⟩
theorem of_meet2 {WA W:World} {R:Option Cm} (hG:Grew WA W):OfCut WA R (.pointer (some ⟨W.heap.size,0,none⟩)) (.bool R.isSome) (W.alloc (.cells #[.int .i64 (R.getD cm0).office,.int .i64 (R.getD cm0).acc,.int .i64 (R.getD cm0).num] 24)) :=
 ⟨_,rfl,rfl,(show Aside _ from new_cell (Grew.refl _) 1 _ rfl),(show Aside _ from hG.alloc _)⟩
structure FltAt (w:World) (KB:Nat) (E A B C M:Value) (o:Opn) (W:World):Prop where
 k0:W.cell? ⟨KB,0,none⟩=some E
 k3:W.cell? ⟨KB,3,none⟩=some C
 k4:W.cell? ⟨KB,4,none⟩=some M
 b0:W.cell? ⟨w.heap.size,0,none⟩=some (.int .i64 o.id)
 b1:W.cell? ⟨w.heap.size,1,none⟩=some (.int .i64 o.day)
 b2:W.cell? ⟨w.heap.size,2,none⟩=some (.int .i64 o.kind)
 b3:W.cell? ⟨w.heap.size,3,none⟩=some (.int .i64 o.unit)
 b4:W.cell? ⟨w.heap.size,4,none⟩=some (.int .i64 o.parent)
 b5:W.cell? ⟨w.heap.size,5,none⟩=some (.int .i64 o.before)
 b6:W.cell? ⟨w.heap.size,6,none⟩=some (.int .i64 o.level)
 b7:W.cell? ⟨w.heap.size,7,none⟩=some (.string o.title)
 b8:W.cell? ⟨w.heap.size,8,none⟩=some (.string o.mark)
 b9:W.cell? ⟨w.heap.size,9,none⟩=some (.int .i64 o.office)
 b10:W.cell? ⟨w.heap.size,10,none⟩=some (.int .i64 o.acc)
 b11:W.cell? ⟨w.heap.size,11,none⟩=some (.int .i64 o.num)
theorem FltAt.grew {w W W':World} {KB:Nat} {E A B C M:Value} {o:Opn} (h:FltAt w KB E A B C M o W) (g:Grew W W'):FltAt w KB E A B C M o W' :=
 ⟨keep_cell g h.k0,keep_cell g h.k3,keep_cell g h.k4,keep_cell g h.b0,keep_cell g h.b1,keep_cell g h.b2,keep_cell g h.b3,keep_cell g h.b4,keep_cell g h.b5,keep_cell g h.b6,keep_cell g h.b7,keep_cell g h.b8,keep_cell g h.b9,keep_cell g h.b10,keep_cell g h.b11⟩
set_option maxHeartbeats 16000000 in
set_option maxRecDepth 100000 in
theorem uFault (l:List Opn) (t:Tr) (o:Opn) (w0 w:World) (KB MB:Nat) (hE:Env w) (hK:KeepAt w0 KB MB l t w) (hA:AdmL l) (hwf:∀ i (h:i<l.length),WfO l[i]) (hwo:WfO o) (hlen:l.length≤1000000):Calls Tryz.prog 66 #[.pointer (some ⟨KB,0,none⟩),o.agg] w fun e w'=>e=.returned (.int .i64 (faultK l o))∧Grew w w':=by
 rw[← fault_prog hA o]
 obtain⟨A,n,c,B,m,d,E,k,f,C,q,hk,-,hkl,hkt,hkc⟩:=hK.cell
 obtain⟨n2,D,hom,-,hon⟩:=hK.owns
 have hel:(evidF l).length≤1000000:=Nat.le_trans (evid_right hA).1 (by omega)
 have kF:=fun W (hW:Grew w W)=>fFormedX o W (hE.mono hW)
 have kO:=fun W (hW:Grew w W)=>pOf (evidF l) o.unit _ W (hkc.mono hW) hel
 have kA:=fun W (hW:Grew w W)=>pAdd (evidF l) o.came _ W (hkc.mono hW) hel
 have kM:=fun W=>uMarks o W
 have kI:=fun W (hW:Grew w W)=>uFind l o.unit _ KB W (hkl.mono hW) (keep_cell hW (cellOf (x:=.slice E l.length k) hk rfl)) hlen
 have kC:=fun id W (hW:Grew w W)=>uCounts l hwf id _ KB W (hkl.mono hW) (keep_cell hW (cellOf (x:=.slice E l.length k) hk rfl)) hlen
 have kL:=fun W (hW:Grew w W)=>ownM_look hon (mapLat hom hW) hwo.mark
 have hlast:∀ W,Grew w W→(l.length=0∧lateB l o=false)∨(0<l.length∧∃(b off:Nat) (p:Opn),E=some ⟨b,off,none⟩∧W.cell? ⟨b,off+(l.length-1)*12,none⟩=some (.int .i64 p.id)∧W.cell? ⟨b,off+(l.length-1)*12+1,none⟩=some (.int .i64 p.day)∧lateB l o=(decide (o.id≤p.id) || decide (o.day<p.day))):=fun W hW=>by
  obtain⟨A',c',hv,-,-,hr⟩:=hkl.open_
  injection hv with e1 e2 e3
  subst e1
  rcases Nat.eq_zero_or_pos l.length with h0|h0
  ·exact .inl ⟨h0,by rw[List.eq_nil_of_length_eq_zero h0];rfl⟩
  ·obtain⟨b,off,rfl,hb,hc⟩:=hr h0
   obtain⟨q0,q1,-⟩:=hc W hW (l.length-1) (by omega)
   refine .inr ⟨h0,b,off,l[l.length-1],rfl,q0,q1,?_⟩
   unfold lateB
   rw[List.getLast?_eq_getElem?,List.getElem?_eq_getElem (by omega)]
 have hFA:FltAt w KB (.slice E l.length k) (.slice A n c) (.slice B m d) (.slice C (evidF l).length q) (.map (some MB)) o (w.alloc (.cells o.cells.toArray 26)):=by
  have g:=(Grew.refl w).alloc (.cells o.cells.toArray 26)
  exact⟨keep_cell g (cellOf hk rfl),keep_cell g (cellOf hk rfl),keep_cell g (cellOf hk rfl),new_cell (Grew.refl _) 0 _ rfl,new_cell (Grew.refl _) 1 _ rfl,new_cell (Grew.refl _) 2 _ rfl,new_cell (Grew.refl _) 3 _ rfl,new_cell (Grew.refl _) 4 _ rfl,new_cell (Grew.refl _) 5 _ rfl,new_cell (Grew.refl _) 6 _ rfl,new_cell (Grew.refl _) 7 _ rfl,new_cell (Grew.refl _) 8 _ rfl,new_cell (Grew.refl _) 9 _ rfl,new_cell (Grew.refl _) 10 _ rfl,new_cell (Grew.refl _) 11 _ rfl⟩
 generalize hRES:faultP l o=RES
 unfold faultP at hRES
 generalize formedO o=F0 at kF hRES
 generalize lateB l o=L0 at hlast hRES
 generalize ofC (evidF l) o.unit=R0 at kO hRES
 generalize addE (evidF l) o.came=AE at kA hRES
 generalize marksB o=M0 at kM hRES
 generalize ownerF l o.mark=O0 at kL hRES
 generalize findO l o.unit=FO at kI hRES
 generalize (evidF l).length=ne at kO kA hFA hkc hk
 have HFA:=Lib.hid (fun W (hW:Grew (w.alloc (.cells o.cells.toArray 26)) W)=>hFA.grew hW)
 obtain⟨o0,o1,o2,o3,o4,o5,o6,o7,o8,o9,o10,o11⟩:=o
 unfold Opn.agg at kF kM ⊢
 unfold Opn.cells at HFA
 unfold Opn.came Cm.agg at kA
 dsimp only at kF kM kA kO kI kL hlast HFA hRES ⊢
 unfold RetOf at kO
 unfold RetAdd at kA
 unfold RetFO at kI
 have HRES:=Lib.hid hRES
 have KF:=Lib.hid kF
 have KO:=Lib.hid kO
 have KA:=Lib.hid kA
 have KM:=Lib.hid kM
 have KI:=Lib.hid kI
 have KC:=Lib.hid kC
 have KL:=Lib.hid kL
 have HLA:=Lib.hid hlast
 have HG0:=Lib.hid ((Grew.refl w).alloc (.cells #[.int .i64 o0,.int .i64 o1,.int .i64 o2,.int .i64 o3,.int .i64 o4,.int .i64 o5,.int .i64 o6,.string o7,.string o8,.int .i64 o9,.int .i64 o10,.int .i64 o11] 26))
 have HLEN:=Lib.hid hlen
 clear kF kO kA kM kI kC kL hlast hFA hRES hE hK hA hwf hwo hlen hk hkl hkt hkc hom hon hel
 by_cases h512:512≤l.length
 ·have hz:(512:Int)≤(l.length:Int):=by omega
  have H5:=Lib.hid h512
  clear h512
  obtain⟨xk0,xk3,xk4,xb0,xb1,xb2,xb3,xb4,xb5,xb6,xb7,xb8,xb9,xb10,xb11⟩:=HFA.out _ (Grew.refl _)
  have hlook:∀ nq,(Instr.lookup 79 (.map (some MB)) (.string o8) true).run Tryz.prog ((w.alloc (.cells #[.int .i64 o0,.int .i64 o1,.int .i64 o2,.int .i64 o3,.int .i64 o4,.int .i64 o5,.int .i64 o6,.string o7,.string o8,.int .i64 o9,.int .i64 o10,.int .i64 o11] 26)).drewN nq)=.ok (.tuple #[.int .i64 (O0.getD 0),.bool O0.isSome]) ((w.alloc (.cells #[.int .i64 o0,.int .i64 o1,.int .i64 o2,.int .i64 o3,.int .i64 o4,.int .i64 o5,.int .i64 o6,.string o7,.string o8,.int .i64 o9,.int .i64 o10,.int .i64 o11] 26)).drewN nq):=fun nq=>KL.out _ (HG0.out.drewN nq)
  go_enter Tryz.func66,Tryz.ntmps66
  go_wp2_with fail
  go_quiet (fail)
  go_wp2
  go_ret
  exact⟨ret_int (by rw[← HRES.out];simp[H5.out]),HG0.out.drewN _⟩
 have hz:decide ((512:Int)≤(l.length:Int))=false:=by rw[decide_eq_false_iff_not];omega
 have H5:=Lib.hid h512
 clear h512
 obtain⟨xk0,xk3,xk4,xb0,xb1,xb2,xb3,xb4,xb5,xb6,xb7,xb8,xb9,xb10,xb11⟩:=HFA.out _ (Grew.refl _)
 have hlook:∀ nq,(Instr.lookup 79 (.map (some MB)) (.string o8) true).run Tryz.prog ((w.alloc (.cells #[.int .i64 o0,.int .i64 o1,.int .i64 o2,.int .i64 o3,.int .i64 o4,.int .i64 o5,.int .i64 o6,.string o7,.string o8,.int .i64 o9,.int .i64 o10,.int .i64 o11] 26)).drewN nq)=.ok (.tuple #[.int .i64 (O0.getD 0),.bool O0.isSome]) ((w.alloc (.cells #[.int .i64 o0,.int .i64 o1,.int .i64 o2,.int .i64 o3,.int .i64 o4,.int .i64 o5,.int .i64 o6,.string o7,.string o8,.int .i64 o9,.int .i64 o10,.int .i64 o11] 26)).drewN nq):=fun nq=>KL.out _ (HG0.out.drewN nq)
 go_enter Tryz.func66,Tryz.ntmps66
 go_wp2_with fail
 go_quiet (fail)
 go_wp2_with fail
 refine(KF.out _ (HG0.out.drewN _)).mono ?_
 rintro e w1 ⟨rfl,g1⟩
 have g01:=Grew.trans ((Grew.refl (w.alloc (.cells #[.int .i64 o0,.int .i64 o1,.int .i64 o2,.int .i64 o3,.int .i64 o4,.int .i64 o5,.int .i64 o6,.string o7,.string o8,.int .i64 o9,.int .i64 o10,.int .i64 o11] 26))).drewN _) g1
 have HG1:=Lib.hid (HG0.out.trans g01)
 have HF1:=Lib.hid (fun W (hW:Grew w1 W)=>HFA.out W (g01.trans hW))
 clear xk0 xk3 xk4 xb0 xb1 xb2 xb3 xb4 xb5 xb6 xb7 xb8 xb9 xb10 xb11 g1 g01 hlook hz
 cases F0 with
 | false =>
  dsimp only
  rw[if_neg (by decide)]
  go_wp2
  go_ret
  exact⟨ret_int (by rw[← HRES.out];simp[H5.out]),HG1.out⟩
 | true =>
  dsimp only
  rw[if_pos rfl]
  obtain⟨xk0,xk3,xk4,xb0,xb1,xb2,xb3,xb4,xb5,xb6,xb7,xb8,xb9,xb10,xb11⟩:=HF1.out _ (Grew.refl _)
  go_wp2_with fail
  go_cut [36] from 37 to 66 (fun s36 wx=>s36=.bool L0∧Aside (Grew w1 wx))
  case first =>
   have hlst:=HLA.out w1 HG1.out
   rcases hlst with ⟨h0,hl0⟩|⟨h0,b,off,p,rfl,q0,q1,hl0⟩
   ·have hposz:decide ((0:Int)<(l.length:Int))=false:=by rw[decide_eq_false_iff_not];omega
    have hposn:decide (0<l.length)=false:=by rw[decide_eq_false_iff_not];omega
    have HL0:=Lib.hid hl0
    clear h0 hl0
    go_quiet (fail)
    go_wp2_with fail
    go_meet
    exact⟨by rw[HL0.out],(show Aside _ from(Grew.refl _).drewN _)⟩
   ·have hposz:(0:Int)<(l.length:Int):=by omega
    have hwr:IntKind.i64.wrap ((l.length:Int)-1)=(l.length:Int)-1:=IntWalk.i64_in _ (by have:=HLEN.out;omega)
    have HL0:=Lib.hid hl0
    obtain⟨pid,pday,pr⟩:∃ a b,p.id=a∧p.day=b:=⟨_,_,rfl,rfl⟩
    rw[pr.1] at q0 HL0
    rw[pr.2] at q1 HL0
    clear pr hl0
    by_cases hi1:o0≤pid
    ·have HLT:RowKit.Hid (L0=true):=by
      show L0=true
      rw[HL0.out,decide_eq_true hi1];rfl
     go_quiet (fail)
     go_wp2_with fail
     go_meet
     exact⟨by rw[HLT.out],(show Aside _ from(Grew.refl _).drewN _)⟩
    ·have hi1f:decide (o0≤pid)=false:=by simpa using hi1
     have HI1:=Lib.hid hi1f
     clear hi1
     by_cases hi2:o1<pday
     ·have HLT:RowKit.Hid (L0=true):=by
       show L0=true
       rw[HL0.out,HI1.out,decide_eq_true hi2];rfl
      go_quiet (fail)
      go_wp2_with fail
      go_meet
      exact⟨by rw[HLT.out],(show Aside _ from(Grew.refl _).drewN _)⟩
     ·have hi2f:decide (o1<pday)=false:=by simpa using hi2
      have HLT:RowKit.Hid (L0=false):=by
       show L0=false
       rw[HL0.out,HI1.out,hi2f];rfl
      clear hi2
      go_quiet (fail)
      go_wp2_with fail
      go_meet
      exact⟨by rw[HLT.out],(show Aside _ from(Grew.refl _).drewN _)⟩
  case rest =>
   obtain⟨rfl,GC⟩:=hcut
   have HG2:=Lib.hid (HG1.out.trans GC.out)
   have HF2:=Lib.hid (fun W (hW:Grew wc W)=>HF1.out W (GC.out.trans hW))
   clear xk0 xk3 xk4 xb0 xb1 xb2 xb3 xb4 xb5 xb6 xb7 xb8 xb9 xb10 xb11 GC HLA
   cases L0 with
   | true =>
    go_wp2
    go_ret
    exact⟨ret_int (by rw[← HRES.out];simp[H5.out]),HG2.out⟩
   | false =>
    obtain⟨xk0,xk3,xk4,xb0,xb1,xb2,xb3,xb4,xb5,xb6,xb7,xb8,xb9,xb10,xb11⟩:=HF2.out _ (Grew.refl _)
    go_wp2_with fail
    generalize hwB:wc=wB at *
    have HSS:=Lib.hid (fun W (g:Grew wB W)=>(⟨keep_cell g xk3,keep_cell g xb3,g⟩:W.cell? ⟨KB,3,none⟩=some (.slice C ne q)∧W.cell? ⟨w.heap.size,3,none⟩=some (.int .i64 o3)∧Grew wB W))
    go_cut [8,9] from 67 to 76 (fun s8 s9 wx=>OfCut wB R0 s8 s9 wx)
    case first =>
     go_region_held3 (fun W=>W.cell? ⟨KB,3,none⟩=some (.slice C ne q)∧W.cell? ⟨w.heap.size,3,none⟩=some (.int .i64 o3)∧Grew wB W) (refine HSS.out _ (by repeat (with_reducible first|exact Grew.refl _|exact GZ.out|refine Grew.drew ?_|refine Grew.alloc ?_ _|refine Grew.setCell ?_ (by first|exact Nat.le_refl _|exact GZ.out.size|simp) _))) (first|(go_at_call 39;with_reducible refine(KO.out _ (HG2.out.trans (by repeat (with_reducible first|exact Grew.refl _|refine Grew.drew ?_|refine Grew.alloc ?_ _)))).mono ?_;rintro e wz ⟨rfl,gq⟩;have GZ:=Lib.hid (show Grew wB wz from Grew.trans (by repeat (with_reducible first|exact Grew.refl _|refine Grew.drew ?_|refine Grew.alloc ?_ _)) gq);(try (have hdr:Grew (wB.alloc (.cells [.int .i64 0,.int .i64 0,.int .i64 0].toArray 24)).drew wz:=(by with_reducible exact gq);have BX:=Lib.hid (heapKeep (Grew.trans (Grew.refl _).drew hdr) (heapNew wB (.cells [.int .i64 0,.int .i64 0,.int .i64 0].toArray 24)))));(try (have hdr:Grew (wB.alloc (.cells [.int .i64 0,.int .i64 0,.int .i64 0].toArray 24)) wz:=(by with_reducible exact gq);have BX:=Lib.hid (heapKeep hdr (heapNew wB (.cells [.int .i64 0,.int .i64 0,.int .i64 0].toArray 24)))));(try (have q0:wz.cell? ⟨wB.heap.size,0,none⟩=some (.int .i64 0):=cellOf BX.out rfl;have q1:wz.cell? ⟨wB.heap.size,1,none⟩=some (.int .i64 0):=cellOf BX.out rfl;have q2:wz.cell? ⟨wB.heap.size,2,none⟩=some (.int .i64 0):=cellOf BX.out rfl;have z0:wz.frozen? ⟨wB.heap.size,0,none⟩=false:=freeOf BX.out;have z1:wz.frozen? ⟨wB.heap.size,1,none⟩=false:=freeOf BX.out;have z2:wz.frozen? ⟨wB.heap.size,2,none⟩=false:=freeOf BX.out));clear gq))
     all_goals go_wp2_with fail
     all_goals go_meet
     all_goals with_reducible first|exact of_meet2 GZ.out|exact of_meet BX.out (Nat.le_refl _) GZ.out
    case rest =>
     obtain⟨X,rfl,rfl,hacc,GC⟩:=hcut
     have HG3:=Lib.hid (HG2.out.trans GC.out)
     have HF3:=Lib.hid (fun W (hW:Grew wc W)=>HF2.out W (GC.out.trans hW))
     have HAC:=Lib.hid (fun W (hW:Grew wc W)=>keep_cell hW hacc.out)
     clear xk0 xk3 xk4 xb0 xb1 xb2 xb3 xb4 xb5 xb6 xb7 xb8 xb9 xb10 xb11 GC hacc HSS
     generalize R0.isSome=rs at HRES ⊢
     generalize (R0.getD cm0).acc=ac at HRES HAC
     generalize hw3:wc=w3 at *
     obtain⟨xk0,xk3,xk4,xb0,xb1,xb2,xb3,xb4,xb5,xb6,xb7,xb8,xb9,xb10,xb11⟩:=HF3.out _ (Grew.refl _)
     cases hk1:(o2 == 1)
     ·have HK1:=Lib.hid (show ¬ o2=1 by simpa using hk1)
      clear hw3
      clear xk0 xk3 xk4 xb0 xb1 xb2 xb3 xb4 xb5 xb6 xb7 xb8 xb9 xb10 xb11
      obtain⟨xk0,xk3,xk4,xb0,xb1,xb2,xb3,xb4,xb5,xb6,xb7,xb8,xb9,xb10,xb11⟩:=HF3.out _ (Grew.refl _)
      have xac:=HAC.out _ (Grew.refl _)
      go_wp2_with fail
      refine(KM.out _).mono ?_
      rintro e wm ⟨rfl,gm⟩
      have HG5:=Lib.hid (HG3.out.trans gm)
      have HF5:=Lib.hid (fun W (hW:Grew wm W)=>HF3.out W (gm.trans hW))
      have HAC5:=Lib.hid (fun W (hW:Grew wm W)=>HAC.out W (gm.trans hW))
      clear xk0 xk3 xk4 xb0 xb1 xb2 xb3 xb4 xb5 xb6 xb7 xb8 xb9 xb10 xb11 xac gm
      obtain⟨xk0,xk3,xk4,xb0,xb1,xb2,xb3,xb4,xb5,xb6,xb7,xb8,xb9,xb10,xb11⟩:=HF5.out _ (Grew.refl _)
      have xac:=HAC5.out _ (Grew.refl _)
      dsimp only
      generalize O0.isSome=os at HRES ⊢
      generalize O0.getD 0=og at HRES ⊢
      by_cases hm:M0=true∧os=true∧og≠o3
      ·obtain⟨rfl,rfl,hm3⟩:=hm
       have hm3b:(og != o3)=true:=by simpa using hm3
       have HM3:=Lib.hid hm3
       clear hm3
       go_wp2
       go_ret
       exact⟨ret_int (by rw[← HRES.out];simp[H5.out,HK1.out,HM3.out]),HG5.out⟩
      have hmc:M0=false∨(M0=true∧os=false)∨(M0=true∧os=true∧(og != o3)=false):=by
       cases M0
       ·exact .inl rfl
       ·cases os
        ·exact .inr (.inl ⟨rfl,rfl⟩)
        ·refine .inr (.inr ⟨rfl,rfl,?_⟩)
         simpa using hm
      clear hm
      rcases hmc with rfl|⟨rfl,rfl⟩|⟨rfl,rfl,hm3⟩
      ·skip
       by_cases h5:o2=5∧rs=true∧ac≠0
       ·obtain⟨h51,rfl,h53⟩:=h5
        have hk5:(o2 == 5)=true:=by simpa using h51
        have hac:(ac != 0)=true:=by simpa using h53
        have HK5:=Lib.hid h51
        have HAX:=Lib.hid h53
        clear h51 h53
        go_wp2
        go_ret
        exact⟨ret_int (by rw[← HRES.out];simp[H5.out,HK5.out,HAX.out]),HG5.out⟩
       have h5c:(o2 == 5)=false∨((o2 == 5)=true∧rs=false)∨((o2 == 5)=true∧rs=true∧(ac != 0)=false):=by
        cases h51:(o2 == 5)
        ·exact .inl rfl
        ·cases rs
         ·exact .inr (.inl ⟨rfl,rfl⟩)
         ·refine .inr (.inr ⟨rfl,rfl,?_⟩)
          have h52:o2=5:=by simpa using h51
          simpa [h52] using h5
       clear h5
       cases hk6:(o2 == 6)
       ·have HK6:=Lib.hid (show ¬ o2=6 by simpa using hk6)
        rcases h5c with hk5|⟨hk5,rfl⟩|⟨hk5,rfl,hac⟩
        ·skip
         have HK5:=Lib.hid (show ¬ o2=5 by simpa using hk5)
         go_wp2
         go_ret
         exact⟨ret_int (by rw[← HRES.out];simp[H5.out,HK1.out,HK5.out,HK6.out]),HG5.out⟩
        ·skip
         go_wp2
         go_ret
         exact⟨ret_int (by rw[← HRES.out];simp[H5.out,HK1.out,HK6.out]),HG5.out⟩
        ·skip
         have HK5:=Lib.hid (show ac=0 by simpa using hac)
         go_wp2
         go_ret
         exact⟨ret_int (by rw[← HRES.out];simp[H5.out,HK1.out,HK5.out,HK6.out]),HG5.out⟩
       ·have HK6:=Lib.hid (show o2=6 by simpa using hk6)
        have hk5:(o2 == 5)=false:=by
         have:=HK6.out
         rw[this];rfl
        clear h5c
        go_wp2_with fail
        refine(KI.out _ HG5.out).mono ?_
        rintro e wf ⟨rfl,gf⟩
        have HG6:=Lib.hid (HG5.out.trans gf)
        clear xk0 xk3 xk4 xb0 xb1 xb2 xb3 xb4 xb5 xb6 xb7 xb8 xb9 xb10 xb11 xac gf
        generalize FO.isSome=fs at HRES ⊢
        generalize FO.getD opn0=pp at HRES ⊢
        have KCC:=Lib.hid (fun W (hW:Grew w W)=>KC.out pp.id W hW)
        generalize ((countI l).any fun q=>q.2.id == pp.id)=ca at HRES KCC
        obtain⟨p0,p1,p2,p3,p4,p5,p6,p7,p8,p9,p10,p11⟩:=pp
        dsimp only [Opn.agg] at HRES KCC ⊢
        cases fs
        ·skip
         go_wp2
         go_ret
         exact⟨ret_int (by rw[← HRES.out];simp[H5.out,HK6.out]),HG6.out.alloc _⟩
        ·cases hp1:(p2 == 1)
         ·have HP1:=Lib.hid (show ¬ p2=1 by simpa using hp1)
          go_wp2
          go_ret
          exact⟨ret_int (by rw[← HRES.out];simp[H5.out,HK6.out,HP1.out]),HG6.out.alloc _⟩
         ·have HP1:=Lib.hid (show p2=1 by simpa using hp1)
          cases hp9:(p10 != 0)
          ·have HP9:=Lib.hid (show p10=0 by simpa using hp9)
           go_wp2
           go_ret
           exact⟨ret_int (by rw[← HRES.out];simp[H5.out,HK6.out,HP1.out,HP9.out]),HG6.out.alloc _⟩
          ·have HP9:=Lib.hid (show ¬ p10=0 by simpa using hp9)
           go_wp2_with fail
           refine(KCC.out _ (HG6.out.alloc (.cells #[.int .i64 p0,.int .i64 p1,.int .i64 p2,.int .i64 p3,.int .i64 p4,.int .i64 p5,.int .i64 p6,.string p7,.string p8,.int .i64 p9,.int .i64 p10,.int .i64 p11] 26))).mono ?_
           rintro e wn ⟨rfl,gn⟩
           have HG7:=Lib.hid ((HG6.out.alloc (.cells #[.int .i64 p0,.int .i64 p1,.int .i64 p2,.int .i64 p3,.int .i64 p4,.int .i64 p5,.int .i64 p6,.string p7,.string p8,.int .i64 p9,.int .i64 p10,.int .i64 p11] 26)).trans gn)
           clear gn
           dsimp only
           cases ca
           ·skip
            go_wp2
            go_ret
            exact⟨ret_int (by rw[← HRES.out];simp[H5.out,HK6.out,HP1.out,HP9.out]),HG7.out⟩
           ·skip
            go_wp2
            go_ret
            exact⟨ret_int (by rw[← HRES.out];simp[H5.out,HK6.out,HP1.out,HP9.out]),HG7.out⟩
      ·skip
       by_cases h5:o2=5∧rs=true∧ac≠0
       ·obtain⟨h51,rfl,h53⟩:=h5
        have hk5:(o2 == 5)=true:=by simpa using h51
        have hac:(ac != 0)=true:=by simpa using h53
        have HK5:=Lib.hid h51
        have HAX:=Lib.hid h53
        clear h51 h53
        go_wp2
        go_ret
        exact⟨ret_int (by rw[← HRES.out];simp[H5.out,HK5.out,HAX.out]),HG5.out⟩
       have h5c:(o2 == 5)=false∨((o2 == 5)=true∧rs=false)∨((o2 == 5)=true∧rs=true∧(ac != 0)=false):=by
        cases h51:(o2 == 5)
        ·exact .inl rfl
        ·cases rs
         ·exact .inr (.inl ⟨rfl,rfl⟩)
         ·refine .inr (.inr ⟨rfl,rfl,?_⟩)
          have h52:o2=5:=by simpa using h51
          simpa [h52] using h5
       clear h5
       cases hk6:(o2 == 6)
       ·have HK6:=Lib.hid (show ¬ o2=6 by simpa using hk6)
        rcases h5c with hk5|⟨hk5,rfl⟩|⟨hk5,rfl,hac⟩
        ·skip
         have HK5:=Lib.hid (show ¬ o2=5 by simpa using hk5)
         go_wp2
         go_ret
         exact⟨ret_int (by rw[← HRES.out];simp[H5.out,HK1.out,HK5.out,HK6.out]),HG5.out⟩
        ·skip
         go_wp2
         go_ret
         exact⟨ret_int (by rw[← HRES.out];simp[H5.out,HK1.out,HK6.out]),HG5.out⟩
        ·skip
         have HK5:=Lib.hid (show ac=0 by simpa using hac)
         go_wp2
         go_ret
         exact⟨ret_int (by rw[← HRES.out];simp[H5.out,HK1.out,HK5.out,HK6.out]),HG5.out⟩
       ·have HK6:=Lib.hid (show o2=6 by simpa using hk6)
        have hk5:(o2 == 5)=false:=by
         have:=HK6.out
         rw[this];rfl
        clear h5c
        go_wp2_with fail
        refine(KI.out _ HG5.out).mono ?_
        rintro e wf ⟨rfl,gf⟩
        have HG6:=Lib.hid (HG5.out.trans gf)
        clear xk0 xk3 xk4 xb0 xb1 xb2 xb3 xb4 xb5 xb6 xb7 xb8 xb9 xb10 xb11 xac gf
        generalize FO.isSome=fs at HRES ⊢
        generalize FO.getD opn0=pp at HRES ⊢
        have KCC:=Lib.hid (fun W (hW:Grew w W)=>KC.out pp.id W hW)
        generalize ((countI l).any fun q=>q.2.id == pp.id)=ca at HRES KCC
        obtain⟨p0,p1,p2,p3,p4,p5,p6,p7,p8,p9,p10,p11⟩:=pp
        dsimp only [Opn.agg] at HRES KCC ⊢
        cases fs
        ·skip
         go_wp2
         go_ret
         exact⟨ret_int (by rw[← HRES.out];simp[H5.out,HK6.out]),HG6.out.alloc _⟩
        ·cases hp1:(p2 == 1)
         ·have HP1:=Lib.hid (show ¬ p2=1 by simpa using hp1)
          go_wp2
          go_ret
          exact⟨ret_int (by rw[← HRES.out];simp[H5.out,HK6.out,HP1.out]),HG6.out.alloc _⟩
         ·have HP1:=Lib.hid (show p2=1 by simpa using hp1)
          cases hp9:(p10 != 0)
          ·have HP9:=Lib.hid (show p10=0 by simpa using hp9)
           go_wp2
           go_ret
           exact⟨ret_int (by rw[← HRES.out];simp[H5.out,HK6.out,HP1.out,HP9.out]),HG6.out.alloc _⟩
          ·have HP9:=Lib.hid (show ¬ p10=0 by simpa using hp9)
           go_wp2_with fail
           refine(KCC.out _ (HG6.out.alloc (.cells #[.int .i64 p0,.int .i64 p1,.int .i64 p2,.int .i64 p3,.int .i64 p4,.int .i64 p5,.int .i64 p6,.string p7,.string p8,.int .i64 p9,.int .i64 p10,.int .i64 p11] 26))).mono ?_
           rintro e wn ⟨rfl,gn⟩
           have HG7:=Lib.hid ((HG6.out.alloc (.cells #[.int .i64 p0,.int .i64 p1,.int .i64 p2,.int .i64 p3,.int .i64 p4,.int .i64 p5,.int .i64 p6,.string p7,.string p8,.int .i64 p9,.int .i64 p10,.int .i64 p11] 26)).trans gn)
           clear gn
           dsimp only
           cases ca
           ·skip
            go_wp2
            go_ret
            exact⟨ret_int (by rw[← HRES.out];simp[H5.out,HK6.out,HP1.out,HP9.out]),HG7.out⟩
           ·skip
            go_wp2
            go_ret
            exact⟨ret_int (by rw[← HRES.out];simp[H5.out,HK6.out,HP1.out,HP9.out]),HG7.out⟩
      ·skip
       have HM:=Lib.hid (show og=o3 by simpa using hm3)
       by_cases h5:o2=5∧rs=true∧ac≠0
       ·obtain⟨h51,rfl,h53⟩:=h5
        have hk5:(o2 == 5)=true:=by simpa using h51
        have hac:(ac != 0)=true:=by simpa using h53
        have HK5:=Lib.hid h51
        have HAX:=Lib.hid h53
        clear h51 h53
        go_wp2
        go_ret
        exact⟨ret_int (by rw[← HRES.out];simp[H5.out,HM.out,HK5.out,HAX.out]),HG5.out⟩
       have h5c:(o2 == 5)=false∨((o2 == 5)=true∧rs=false)∨((o2 == 5)=true∧rs=true∧(ac != 0)=false):=by
        cases h51:(o2 == 5)
        ·exact .inl rfl
        ·cases rs
         ·exact .inr (.inl ⟨rfl,rfl⟩)
         ·refine .inr (.inr ⟨rfl,rfl,?_⟩)
          have h52:o2=5:=by simpa using h51
          simpa [h52] using h5
       clear h5
       cases hk6:(o2 == 6)
       ·have HK6:=Lib.hid (show ¬ o2=6 by simpa using hk6)
        rcases h5c with hk5|⟨hk5,rfl⟩|⟨hk5,rfl,hac⟩
        ·skip
         have HK5:=Lib.hid (show ¬ o2=5 by simpa using hk5)
         go_wp2
         go_ret
         exact⟨ret_int (by rw[← HRES.out];simp[H5.out,HK1.out,HM.out,HK5.out,HK6.out]),HG5.out⟩
        ·skip
         go_wp2
         go_ret
         exact⟨ret_int (by rw[← HRES.out];simp[H5.out,HK1.out,HM.out,HK6.out]),HG5.out⟩
        ·skip
         have HK5:=Lib.hid (show ac=0 by simpa using hac)
         go_wp2
         go_ret
         exact⟨ret_int (by rw[← HRES.out];simp[H5.out,HK1.out,HM.out,HK5.out,HK6.out]),HG5.out⟩
       ·have HK6:=Lib.hid (show o2=6 by simpa using hk6)
        have hk5:(o2 == 5)=false:=by
         have:=HK6.out
         rw[this];rfl
        clear h5c
        go_wp2_with fail
        refine(KI.out _ HG5.out).mono ?_
        rintro e wf ⟨rfl,gf⟩
        have HG6:=Lib.hid (HG5.out.trans gf)
        clear xk0 xk3 xk4 xb0 xb1 xb2 xb3 xb4 xb5 xb6 xb7 xb8 xb9 xb10 xb11 xac gf
        generalize FO.isSome=fs at HRES ⊢
        generalize FO.getD opn0=pp at HRES ⊢
        have KCC:=Lib.hid (fun W (hW:Grew w W)=>KC.out pp.id W hW)
        generalize ((countI l).any fun q=>q.2.id == pp.id)=ca at HRES KCC
        obtain⟨p0,p1,p2,p3,p4,p5,p6,p7,p8,p9,p10,p11⟩:=pp
        dsimp only [Opn.agg] at HRES KCC ⊢
        cases fs
        ·skip
         go_wp2
         go_ret
         exact⟨ret_int (by rw[← HRES.out];simp[H5.out,HM.out,HK6.out]),HG6.out.alloc _⟩
        ·cases hp1:(p2 == 1)
         ·have HP1:=Lib.hid (show ¬ p2=1 by simpa using hp1)
          go_wp2
          go_ret
          exact⟨ret_int (by rw[← HRES.out];simp[H5.out,HM.out,HK6.out,HP1.out]),HG6.out.alloc _⟩
         ·have HP1:=Lib.hid (show p2=1 by simpa using hp1)
          cases hp9:(p10 != 0)
          ·have HP9:=Lib.hid (show p10=0 by simpa using hp9)
           go_wp2
           go_ret
           exact⟨ret_int (by rw[← HRES.out];simp[H5.out,HM.out,HK6.out,HP1.out,HP9.out]),HG6.out.alloc _⟩
          ·have HP9:=Lib.hid (show ¬ p10=0 by simpa using hp9)
           go_wp2_with fail
           refine(KCC.out _ (HG6.out.alloc (.cells #[.int .i64 p0,.int .i64 p1,.int .i64 p2,.int .i64 p3,.int .i64 p4,.int .i64 p5,.int .i64 p6,.string p7,.string p8,.int .i64 p9,.int .i64 p10,.int .i64 p11] 26))).mono ?_
           rintro e wn ⟨rfl,gn⟩
           have HG7:=Lib.hid ((HG6.out.alloc (.cells #[.int .i64 p0,.int .i64 p1,.int .i64 p2,.int .i64 p3,.int .i64 p4,.int .i64 p5,.int .i64 p6,.string p7,.string p8,.int .i64 p9,.int .i64 p10,.int .i64 p11] 26)).trans gn)
           clear gn
           dsimp only
           cases ca
           ·skip
            go_wp2
            go_ret
            exact⟨ret_int (by rw[← HRES.out];simp[H5.out,HM.out,HK6.out,HP1.out,HP9.out]),HG7.out⟩
           ·skip
            go_wp2
            go_ret
            exact⟨ret_int (by rw[← HRES.out];simp[H5.out,HM.out,HK6.out,HP1.out,HP9.out]),HG7.out⟩
     ·have HK1:=Lib.hid (show o2=1 by simpa using hk1)
      cases rs with
      | true =>
       go_wp2
       go_ret
       exact⟨ret_int (by rw[← HRES.out];simp[H5.out,HK1.out]),HG3.out⟩
      | false =>
       go_wp2_with fail
       have HSS:=Lib.hid (fun W (g:Grew w3 W)=>(⟨keep_cell g xk3,keep_cell g xb3,keep_cell g xb9,keep_cell g xb10,keep_cell g xb11,g⟩:W.cell? ⟨KB,3,none⟩=some (.slice C ne q)∧W.cell? ⟨w.heap.size,3,none⟩=some (.int .i64 o3)∧W.cell? ⟨w.heap.size,9,none⟩=some (.int .i64 o9)∧W.cell? ⟨w.heap.size,10,none⟩=some (.int .i64 o10)∧W.cell? ⟨w.heap.size,11,none⟩=some (.int .i64 o11)∧Grew w3 W))
       go_cut [10,11] from 88 to 100 (fun s10 s11 wx=>s11=.int .i64 AE∧Aside (Grew w3 wx))
       case first =>
        go_region_held3 (fun W=>W.cell? ⟨KB,3,none⟩=some (.slice C ne q)∧W.cell? ⟨w.heap.size,3,none⟩=some (.int .i64 o3)∧W.cell? ⟨w.heap.size,9,none⟩=some (.int .i64 o9)∧W.cell? ⟨w.heap.size,10,none⟩=some (.int .i64 o10)∧W.cell? ⟨w.heap.size,11,none⟩=some (.int .i64 o11)∧Grew w3 W) (refine HSS.out _ (by repeat (with_reducible first|exact Grew.refl _|exact GZ.out|refine Grew.drew ?_|refine Grew.alloc ?_ _))) (first|(go_at_call 89;with_reducible refine(KA.out _ (HG3.out.trans (by repeat (with_reducible first|exact Grew.refl _|refine Grew.drew ?_|refine Grew.alloc ?_ _)))).mono ?_;rintro e wz ⟨Az,kz,cz,rfl,gq⟩;have GZ:=Lib.hid (show Grew w3 wz from Grew.trans (by repeat (with_reducible first|exact Grew.refl _|refine Grew.drew ?_|refine Grew.alloc ?_ _)) gq);clear gq))
        all_goals go_wp2_with fail
        all_goals go_meet
        all_goals exact⟨rfl,(show Aside _ from GZ.out)⟩
       case rest =>
        obtain⟨rfl,GC⟩:=hcut
        have HG4:=Lib.hid (HG3.out.trans GC.out)
        have HF4:=Lib.hid (fun W (hW:Grew wc W)=>HF3.out W (GC.out.trans hW))
        have HAC4:=Lib.hid (fun W (hW:Grew wc W)=>HAC.out W (GC.out.trans hW))
        clear xk0 xk3 xk4 xb0 xb1 xb2 xb3 xb4 xb5 xb6 xb7 xb8 xb9 xb10 xb11 GC HSS
        by_cases hae:AE=0
        ·have HAE:=Lib.hid hae
         have haz:(AE != 0)=false:=by rw[hae];rfl
         have hk5:(o2 == 5)=false:=by
          have:=HK1.out
          rw[this];rfl
         have hk6:(o2 == 6)=false:=by
          have:=HK1.out
          rw[this];rfl
         clear hae
         obtain⟨xk0,xk3,xk4,xb0,xb1,xb2,xb3,xb4,xb5,xb6,xb7,xb8,xb9,xb10,xb11⟩:=HF4.out _ (Grew.refl _)
         have xac:=HAC4.out _ (Grew.refl _)
         go_wp2_with fail
         refine(KM.out _).mono ?_
         rintro e wm ⟨rfl,gm⟩
         have HG5:=Lib.hid (HG4.out.trans gm)
         have HF5:=Lib.hid (fun W (hW:Grew wm W)=>HF4.out W (gm.trans hW))
         have HAC5:=Lib.hid (fun W (hW:Grew wm W)=>HAC4.out W (gm.trans hW))
         clear xk0 xk3 xk4 xb0 xb1 xb2 xb3 xb4 xb5 xb6 xb7 xb8 xb9 xb10 xb11 xac gm
         obtain⟨xk0,xk3,xk4,xb0,xb1,xb2,xb3,xb4,xb5,xb6,xb7,xb8,xb9,xb10,xb11⟩:=HF5.out _ (Grew.refl _)
         have xac:=HAC5.out _ (Grew.refl _)
         dsimp only
         generalize O0.isSome=os at HRES ⊢
         generalize O0.getD 0=og at HRES ⊢
         by_cases hm:M0=true∧os=true∧og≠o3
         ·obtain⟨rfl,rfl,hm3⟩:=hm
          have hm3b:(og != o3)=true:=by simpa using hm3
          have HM3:=Lib.hid hm3
          clear hm3
          go_wp2
          go_ret
          exact⟨ret_int (by rw[← HRES.out];simp[H5.out,HK1.out,HAE.out,HM3.out]),HG5.out⟩
         have hmc:M0=false∨(M0=true∧os=false)∨(M0=true∧os=true∧(og != o3)=false):=by
          cases M0
          ·exact .inl rfl
          ·cases os
           ·exact .inr (.inl ⟨rfl,rfl⟩)
           ·refine .inr (.inr ⟨rfl,rfl,?_⟩)
            simpa using hm
         clear hm
         rcases hmc with rfl|⟨rfl,rfl⟩|⟨rfl,rfl,hm3⟩
         ·skip
          go_wp2
          go_ret
          exact⟨ret_int (by rw[← HRES.out];simp[H5.out,HK1.out,HAE.out]),HG5.out⟩
         ·skip
          go_wp2
          go_ret
          exact⟨ret_int (by rw[← HRES.out];simp[H5.out,HK1.out,HAE.out]),HG5.out⟩
         ·skip
          have HM:=Lib.hid (show og=o3 by simpa using hm3)
          go_wp2
          go_ret
          exact⟨ret_int (by rw[← HRES.out];simp[H5.out,HK1.out,HAE.out,HM.out]),HG5.out⟩
        ·have HAE:=Lib.hid hae
         have haz:(AE != 0)=true:=by simpa using hae
         clear hae
         go_wp2
         go_ret
         exact⟨ret_int (by rw[← HRES.out];simp[H5.out,HK1.out,HAE.out]),HG4.out⟩
end Go.Proofs.YtdochkemaiokfaaGreat