/- slices.Index and slices.Contains at the ledger's lines. No condition. -/
import Derived.BigQuiet
import Derived.Test.YtdochkemaiokfaaGreatQ10
import Derived.Test.YtdochkemaiokfaaGreatQ2
namespace Go.Proofs.YtdochkemaiokfaaGreat
open Go.RowKit
set_option maxHeartbeats 2000000 in
theorem indexM (l:List Mk) (x:Mk) (v:Value) (w:World) (hv:SlM w v l) :
  Calls Tryz.prog 60 #[v,x.agg] w fun e w'=>e=.returned (.int .i64 (idxP (fun y=>decide (x=y)) l))∧Grew w w':=by
 obtain⟨A,c,rfl,hlc,hc,hr⟩:=hv.open_
 unfold maxLen at hc
 have HR:=Lib.hid hr
 generalize hp:(fun y:Mk=>decide (x=y))=p
 have HP:=Lib.hid hp
 obtain⟨xm,xu⟩:=x
 unfold Mk.agg
 dsimp only
 have GA:=Lib.hid ((Grew.refl w).alloc (.cells #[.string xm,.int .i64 xu] 62))
 have HX:=Lib.hid (heapNew w (.cells #[.string xm,.int .i64 xu] 62))
 clear hr hv hp
 go_enter Tryz.func60,Tryz.ntmps60
 go_wp2_with fail
 generalize w.alloc (.cells #[.string xm,.int .i64 xu] 62)=WA at GA HX ⊢
 go_loopg [5,8] l.length (fun gg _ s8 wr=>∃ kk:Nat,kk≤l.length∧l.length-kk≤gg∧s8=.int .i64 kk∧Aside (Grew WA wr)∧Aside (∀ i (hi:i<l.length),i<kk→p l[i]=false))
 case atStart=>exact⟨0,Nat.zero_le _,by omega,rfl,(show Aside _ from Grew.refl _),(show Aside _ from fun i hi h=>absurd h (Nat.not_lt_zero _))⟩
 case round =>
  obtain⟨kk,hkk,hg,rfl,BW,M⟩:=hrel
  by_cases hlt:kk<l.length
  ·have hltz:(kk:Int)<(l.length:Int):=by omega
   have h0z:(0:Int)≤(kk:Int):=by omega
   obtain⟨b,off,rfl,hb,hcell⟩:=HR.out (by omega)
   obtain⟨c0,c1⟩:=hcell wr (GA.out.trans BW.out) kk hlt
   have x0:wr.cell? ⟨w.heap.size,0,none⟩=some (.string xm):=cellOf (heapKeep BW.out HX.out) rfl
   have x1:wr.cell? ⟨w.heap.size,1,none⟩=some (.int .i64 xu):=cellOf (heapKeep BW.out HX.out) rfl
   have hq0:p l[kk]=decide ((⟨xm,xu⟩:Mk)=l[kk]):=by rw[← HP.out]
   clear hcell
   generalize hy:l[kk]=y at c0 c1 hq0
   have B:Aside (l[kk]=y):=hy
   clear hy
   obtain⟨ym,yu⟩:=y
   dsimp only at c0 c1
   generalize hd:decide ((⟨xm,xu⟩:Mk)=⟨ym,yu⟩)=d at hq0
   have Hq:Aside (p ⟨ym,yu⟩=d):=hq0
   clear hq0
   cases d with
   | true =>
    have he:=of_decide_eq_true hd
    simp only [Mk.mk.injEq] at he
    obtain⟨rfl,rfl⟩:=he
    clear hd
    go_wp2
    go_quiet (fail)
    go_wp2
    go_ret
    refine⟨?_,GA.out.trans (BW.out.drewN _)⟩
    rw[idxP_hit p l kk hlt (by rw[B.out];exact Hq.out) M.out]
    rfl
   | false =>
    have hq1:(decide (xm=ym) && decide (xu=yu))=false:=by
     have h:=of_decide_eq_false hd
     simp only [Mk.mk.injEq] at h
     by_cases g0:xm=ym<;>by_cases g1:xu=yu<;>simp_all
    clear hd
    go_wp2
    go_quiet (fail)
    go_wp2
    go_roundg (l.length-(kk+1))
    case measure=>omega
    case rel =>
     refine⟨kk+1,by omega,by omega,by go_num,(show Aside _ from BW.out.drewN _),(show Aside _ from fun i hi h=>?_)⟩
     by_cases e:i=kk
     ·subst e
      rw[B.out];exact Hq.out
     ·exact M.out i hi (by omega)
  ·have hltz:¬ (kk:Int)<(l.length:Int):=by omega
   go_wp2
   go_ret
   refine⟨?_,GA.out.trans BW.out⟩
   rw[idxP_miss p l (fun i hi=>M.out i hi (by omega))]
   rfl
theorem containsM (l:List Mk) (x:Mk) (v:Value) (w:World) (hv:SlM w v l) :
  Calls Tryz.prog 38 #[v,x.agg] w fun e w'=>e=.returned (.bool (l.any fun y=>decide (x=y)))∧Grew w w':=by
 have hi:=fun W (hW:Grew w W)=>indexM l x v W (hv.mono hW)
 have hd:=idxP_any (fun y=>decide (x=y)) l
 generalize idxP (fun y=>decide (x=y)) l=i at hi hd
 obtain⟨xm,xu⟩:=x
 unfold Mk.agg at hi ⊢
 dsimp only at hi ⊢
 have HI:=Lib.hid hi
 have Hd:=Lib.hid hd
 clear hv hd hi
 go_enter Tryz.func38,Tryz.ntmps38
 go_wp2_with fail
 refine(HI.out _ ((Grew.refl w).alloc _)).mono ?_
 rintro e w1 ⟨rfl,g1⟩
 have G1:=Lib.hid (((Grew.refl w).alloc _).trans g1)
 clear g1 HI
 dsimp only
 go_wp2
 go_ret
 exact⟨ret_bool Hd.out,G1.out⟩
end Go.Proofs.YtdochkemaiokfaaGreat