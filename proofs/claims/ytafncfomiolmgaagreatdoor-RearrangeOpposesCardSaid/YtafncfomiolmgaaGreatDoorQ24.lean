/- Lemmas on what the functions of the program and of the library compute: Ap2. The conditions stand at each. -/
import Derived.Test.YtafncfomiolmgaaGreatDoorQ20
import Derived.Test.YtafncfomiolmgaaGreatDoorQ23
import Derived.Maps.OwnSet
import Derived.Test.YtafncfomiolmgaaGreatDoorQ4
namespace Go.Proofs.YtafncfomiolmgaaGreatDoor
open Go.RowKit
open Go.Maps (Keyed int_keyed keyOf_int_mk)
theorem fRight (rs:List Int) (l:List Br) (rv bv:Value) (w:World) (hE:Env w) (hr:SlI w rv rs) (hv:SlBr w bv l) (hf:FewBr l) (hrl:rs.length≤1000000) :
  Calls Tryz.prog 52 #[.agg #[rv,bv]] w (RetB (RightT ⟨rs,l⟩) w):=by
 have K:=uZ (fun W (hW:Grew w W)=>tCheck rs l rv bv W (hE.mono hW) (hr.mono hW) (hv.mono hW) hf hrl)
 clear hE hr hv hf hrl
 go_enter Tryz.func52,Tryz.ntmps52
 exact c_49
def fnElem (v:Value):Option (DataW Unit × List MemPlace):=match v with
 | .func (.func f) a c=>if a.size=0∧c.size=0 then some (.lit (.int .i64 (f:Int)),[]) else none
 | .nilFunc=>some (.lit (.int .i64 (-1)),[])
 | _=>none
theorem fnElem_is {v:Value} {f:Nat} {ps:List MemPlace} (h:fnElem v=some (.lit (.int .i64 (f:Int)),ps)):v=.func (.func f) #[] #[]:=by
 unfold fnElem at h
 split at h
 ·rename_i g a c
  split at h
  ·rename_i hs
   have ha:a=#[]:=Array.size_eq_zero_iff.1 hs.1
   have hc:c=#[]:=Array.size_eq_zero_iff.1 hs.2
   subst ha hc
   have h1:(g:Int)=(f:Int)∧[]=ps:=by simpa using h
   have h2:=h1.1
   have:g=f:=Int.ofNat_inj.1 h2
   rw[this]
  ·cases h
 ·simp at h
 ·cases h
def kindsD:DataW Unit:=(((((DataW.map []).put (.int .i64 1) (.lit (.int .i64 47))).put (.int .i64 2) (.lit (.int .i64 48))).put (.int .i64 3) (.lit (.int .i64 49))).put (.int .i64 4) (.lit (.int .i64 50))).put (.int .i64 5) (.lit (.int .i64 51))
theorem kinds_no {k:Int} (h1:k≠1) (h2:k≠2) (h3:k≠3) (h4:k≠4) (h5:k≠5):Maps.has kindsD (.int .i64 k)=false:=by
 unfold kindsD
 rw[Maps.has_put_other (by simpa using h5),Maps.has_put_other (by simpa using h4),Maps.has_put_other (by simpa using h3),Maps.has_put_other (by simpa using h2),Maps.has_put_other (by simpa using h1)]
 rfl
theorem keyI:Keyed Tryz.prog 3:=int_keyed Tryz.underlying3
theorem wf_small {k:Int} (h:0≤k∧k≤1073741824):(Lit.int .i64 k).wf=true:=WalkArith.wf_i64 b_37
theorem kinds_made (W:World):∃ W1 W2 W3 W4 W5,(Instr.mapUpdate 69 (.map (some W.heap.size)) (.int .i64 1) (.func (.func 47) #[] #[])).run Tryz.prog (W.alloc (.map #[] 0))=.ok () W1 ∧
  (Instr.mapUpdate 69 (.map (some W.heap.size)) (.int .i64 2) (.func (.func 48) #[] #[])).run Tryz.prog W1=.ok () W2 ∧
  (Instr.mapUpdate 69 (.map (some W.heap.size)) (.int .i64 3) (.func (.func 49) #[] #[])).run Tryz.prog W2=.ok () W3 ∧
  (Instr.mapUpdate 69 (.map (some W.heap.size)) (.int .i64 4) (.func (.func 50) #[] #[])).run Tryz.prog W3=.ok () W4 ∧
  (Instr.mapUpdate 69 (.map (some W.heap.size)) (.int .i64 5) (.func (.func 51) #[] #[])).run Tryz.prog W4=.ok () W5 ∧
  W5.ownsMap Tryz.prog 3 fnElem W.heap.size 5 kindsD∧Grew W W5:=by
 have ht:=Tryz.underlying69
 have hk:∀ k:Int,0≤k→k≤5→keyOf Tryz.prog 3 (.int .i64 k)=some (.int .i64 k):=fun k h0 h5=>keyOf_int_mk Tryz.underlying3 (wf_small ⟨h0,by omega⟩)
 have h0:=World.ownsMap_made W Tryz.prog 3 fnElem
 have g0:Grew W (W.alloc (.map #[] 0)):=(uX W).alloc _
 obtain⟨W1,e1,h1,r1⟩:=h0.update keyI ht b_36 (hk 1 b_37 b_37) (val:=.func (.func 47) #[] #[]) (d:=.lit (.int .i64 47)) (ps:=[]) rfl
 have g1:Grew W W1:=Below.grown g0 r1 g0.size (fun b hb=>by cases hb;exact Nat.le_refl _)
 obtain⟨W2,e2,h2,r2⟩:=h1.update keyI ht b_36 (hk 2 b_37 b_37) (val:=.func (.func 48) #[] #[]) (d:=.lit (.int .i64 48)) (ps:=[]) rfl
 have g2:Grew W W2:=Below.grown g1 r2 g1.size (fun b hb=>by cases hb;exact Nat.le_refl _)
 obtain⟨W3,e3,h3,r3⟩:=h2.update keyI ht b_36 (hk 3 b_37 b_37) (val:=.func (.func 49) #[] #[]) (d:=.lit (.int .i64 49)) (ps:=[]) rfl
 have g3:Grew W W3:=Below.grown g2 r3 g2.size (fun b hb=>by cases hb;exact Nat.le_refl _)
 obtain⟨W4,e4,h4,r4⟩:=h3.update keyI ht b_36 (hk 4 b_37 b_37) (val:=.func (.func 50) #[] #[]) (d:=.lit (.int .i64 50)) (ps:=[]) rfl
 have g4:Grew W W4:=Below.grown g3 r4 g3.size (fun b hb=>by cases hb;exact Nat.le_refl _)
 obtain⟨W5,e5,h5,r5⟩:=h4.update keyI ht b_36 (hk 5 b_37 b_37) (val:=.func (.func 51) #[] #[]) (d:=.lit (.int .i64 51)) (ps:=[]) rfl
 have g5:Grew W W5:=Below.grown g4 r5 g4.size (fun b hb=>by cases hb;exact Nat.le_refl _)
 exact⟨W1,W2,W3,W4,W5,e1,e2,e3,e4,e5,h5,g5⟩
theorem zeroFn (w:World):(zeroValue 67).run Tryz.prog w=.ok .nilFunc w:=by kernel_rfl
theorem kinds_look {W:World} {b:Nat} (h:W.ownsMap Tryz.prog 3 fnElem b 5 kindsD) {k:Int} (hk:(Lit.int .i64 k).wf=true) :
  ∃ v,(Instr.lookup 69 (.map (some b)) (.int .i64 k) true).run Tryz.prog W=.ok (.tuple #[v,.bool (Maps.has kindsD (.int .i64 k))]) W∧∃ ps,fnElem v=some (kindsD.atKey (.int .i64 k) (.lit (.int .i64 (-1))),ps):=by
 obtain⟨v,ps,hrun,hv⟩:=h.look_ok keyI Tryz.underlying69 (zeroFn W) (zd:=.lit (.int .i64 (-1))) (zp:=[]) rfl (keyOf_int_mk Tryz.underlying3 hk)
 exact⟨v,hrun,ps,hv⟩
theorem kinds_1:Maps.has kindsD (.int .i64 1)=true∧kindsD.atKey (.int .i64 1) (.lit (.int .i64 (-1)))=.lit (.int .i64 47):=⟨rfl,rfl⟩
theorem kinds_2:Maps.has kindsD (.int .i64 2)=true∧kindsD.atKey (.int .i64 2) (.lit (.int .i64 (-1)))=.lit (.int .i64 48):=⟨rfl,rfl⟩
theorem kinds_3:Maps.has kindsD (.int .i64 3)=true∧kindsD.atKey (.int .i64 3) (.lit (.int .i64 (-1)))=.lit (.int .i64 49):=⟨rfl,rfl⟩
theorem kinds_4:Maps.has kindsD (.int .i64 4)=true∧kindsD.atKey (.int .i64 4) (.lit (.int .i64 (-1)))=.lit (.int .i64 50):=⟨rfl,rfl⟩
theorem kinds_5:Maps.has kindsD (.int .i64 5)=true∧kindsD.atKey (.int .i64 5) (.lit (.int .i64 (-1)))=.lit (.int .i64 51):=⟨rfl,rfl⟩
end Go.Proofs.YtafncfomiolmgaaGreatDoor