/- Lemmas on what the functions of the program and of the library compute: Ap2. The conditions stand at each. -/
import Derived.Test.YtdochkemaiokfaaGreatQ18
import Derived.Test.YtdochkemaiokfaaGreatQ20
import Derived.Maps.OwnSet
/- rearrange: right; Apply's map of methods, made and asked. The conditions: the lists are short; the library's own variables hold what they must. -/
namespace Go.Proofs.YtdochkemaiokfaaGreat
open Go.RowKit
open Go.Maps (Keyed int_keyed keyOf_int_mk)
theorem fRight (rs:List Int) (l:List Br) (rv bv:Value) (w:World) (hE:Env w) (hr:SlI w rv rs) (hv:SlBr w bv l) (hf:FewBr l) (hrl:rs.length≤1000000) :
  Calls Tryz.prog 98 #[.agg #[rv,bv]] w (RetB (RightT ⟨rs,l⟩) w):=by
 have K:=Lib.hid (fun W (hW:Grew w W)=>tCheck rs l rv bv W (hE.mono hW) (hr.mono hW) (hv.mono hW) hf hrl)
 clear hE hr hv hf hrl
 go_enter Tryz.func98,Tryz.ntmps98
 go_wp2_with fail
 refine(K.out _ ((Grew.refl w).alloc _)).mono ?_
 rintro e w1 ⟨i,n,rfl,hn,g⟩
 have HN:=Lib.hid hn
 have HG:=Lib.hid (((Grew.refl w).alloc _).trans g)
 clear hn g
 dsimp only
 cases hz:(n == 0)
 ·go_wp2
  go_ret
  exact⟨false,rfl,⟨(fun h=>by cases h),(fun h=>by rw[HN.out.2 h] at hz;cases hz)⟩,HG.out⟩
 ·go_wp2
  go_ret
  exact⟨true,rfl,⟨fun _=>HN.out.1 (by simpa using hz),fun _=>rfl⟩,HG.out⟩
def fnElem (v:Value):Option (DataW Unit × List MemPlace):=match v with
 | .func (.func f) a c=>if a.size=0∧c.size=0 then some (.lit (.int .i64 (f:Int)),[]) else none
 | .nilFunc=>some (.lit (.int .i64 (-1)),[])
 | _=>none
theorem fnElem_is {v:Value} {f:Nat} {ps:List MemPlace} (h:fnElem v=some (.lit (.int .i64 (f:Int)),ps)):v=.func (.func f) #[] #[]:=by
 unfold fnElem at h
 split at h
 ·rename_i g a c
  split at h
  ·rename_i hs
   have ha:a=#[]:=Array.size_eq_zero_iff.1 hs.1
   have hc:c=#[]:=Array.size_eq_zero_iff.1 hs.2
   subst ha hc
   have h1:(g:Int)=(f:Int)∧[]=ps:=by simpa using h
   have h2:=h1.1
   have:g=f:=Int.ofNat_inj.1 h2
   rw[this]
  ·cases h
 ·simp at h
 ·cases h
def kindsD:DataW Unit:=(((((DataW.map []).put (.int .i64 1) (.lit (.int .i64 92))).put (.int .i64 2) (.lit (.int .i64 93))).put (.int .i64 3) (.lit (.int .i64 94))).put (.int .i64 4) (.lit (.int .i64 95))).put (.int .i64 5) (.lit (.int .i64 96))
theorem kinds_no {k:Int} (h1:k≠1) (h2:k≠2) (h3:k≠3) (h4:k≠4) (h5:k≠5):Maps.has kindsD (.int .i64 k)=false:=by
 unfold kindsD
 rw[Maps.has_put_other (by simpa using h5),Maps.has_put_other (by simpa using h4),Maps.has_put_other (by simpa using h3),Maps.has_put_other (by simpa using h2),Maps.has_put_other (by simpa using h1)]
 rfl
theorem keyI:Keyed Tryz.prog 3:=int_keyed Tryz.underlying3
theorem wf_small {k:Int} (h:0≤k∧k≤1073741824):(Lit.int .i64 k).wf=true:=WalkArith.wf_i64 (by omega)
theorem kinds_made (W:World):∃ W1 W2 W3 W4 W5,(Instr.mapUpdate 123 (.map (some W.heap.size)) (.int .i64 1) (.func (.func 92) #[] #[])).run Tryz.prog (W.alloc (.map #[] 0))=.ok () W1 ∧
  (Instr.mapUpdate 123 (.map (some W.heap.size)) (.int .i64 2) (.func (.func 93) #[] #[])).run Tryz.prog W1=.ok () W2 ∧
  (Instr.mapUpdate 123 (.map (some W.heap.size)) (.int .i64 3) (.func (.func 94) #[] #[])).run Tryz.prog W2=.ok () W3 ∧
  (Instr.mapUpdate 123 (.map (some W.heap.size)) (.int .i64 4) (.func (.func 95) #[] #[])).run Tryz.prog W3=.ok () W4 ∧
  (Instr.mapUpdate 123 (.map (some W.heap.size)) (.int .i64 5) (.func (.func 96) #[] #[])).run Tryz.prog W4=.ok () W5 ∧
  W5.ownsMap Tryz.prog 3 fnElem W.heap.size 5 kindsD∧Grew W W5:=by
 have ht:=Tryz.underlying123
 have hk:∀ k:Int,0≤k→k≤5→keyOf Tryz.prog 3 (.int .i64 k)=some (.int .i64 k):=fun k h0 h5=>keyOf_int_mk Tryz.underlying3 (wf_small ⟨h0,by omega⟩)
 have h0:=World.ownsMap_made W Tryz.prog 3 fnElem
 have g0:Grew W (W.alloc (.map #[] 0)):=(Grew.refl W).alloc _
 obtain⟨W1,e1,h1,r1⟩:=h0.update keyI ht (by decide) (hk 1 (by omega) (by omega)) (val:=.func (.func 92) #[] #[]) (d:=.lit (.int .i64 92)) (ps:=[]) rfl
 have g1:Grew W W1:=Below.grown g0 r1 g0.size (fun b hb=>by cases hb;exact Nat.le_refl _)
 obtain⟨W2,e2,h2,r2⟩:=h1.update keyI ht (by decide) (hk 2 (by omega) (by omega)) (val:=.func (.func 93) #[] #[]) (d:=.lit (.int .i64 93)) (ps:=[]) rfl
 have g2:Grew W W2:=Below.grown g1 r2 g1.size (fun b hb=>by cases hb;exact Nat.le_refl _)
 obtain⟨W3,e3,h3,r3⟩:=h2.update keyI ht (by decide) (hk 3 (by omega) (by omega)) (val:=.func (.func 94) #[] #[]) (d:=.lit (.int .i64 94)) (ps:=[]) rfl
 have g3:Grew W W3:=Below.grown g2 r3 g2.size (fun b hb=>by cases hb;exact Nat.le_refl _)
 obtain⟨W4,e4,h4,r4⟩:=h3.update keyI ht (by decide) (hk 4 (by omega) (by omega)) (val:=.func (.func 95) #[] #[]) (d:=.lit (.int .i64 95)) (ps:=[]) rfl
 have g4:Grew W W4:=Below.grown g3 r4 g3.size (fun b hb=>by cases hb;exact Nat.le_refl _)
 obtain⟨W5,e5,h5,r5⟩:=h4.update keyI ht (by decide) (hk 5 (by omega) (by omega)) (val:=.func (.func 96) #[] #[]) (d:=.lit (.int .i64 96)) (ps:=[]) rfl
 have g5:Grew W W5:=Below.grown g4 r5 g4.size (fun b hb=>by cases hb;exact Nat.le_refl _)
 exact⟨W1,W2,W3,W4,W5,e1,e2,e3,e4,e5,h5,g5⟩
theorem zeroFn (w:World):(zeroValue 121).run Tryz.prog w=.ok .nilFunc w:=by kernel_rfl
theorem kinds_look {W:World} {b:Nat} (h:W.ownsMap Tryz.prog 3 fnElem b 5 kindsD) {k:Int} (hk:(Lit.int .i64 k).wf=true) :
  ∃ v,(Instr.lookup 123 (.map (some b)) (.int .i64 k) true).run Tryz.prog W=.ok (.tuple #[v,.bool (Maps.has kindsD (.int .i64 k))]) W∧∃ ps,fnElem v=some (kindsD.atKey (.int .i64 k) (.lit (.int .i64 (-1))),ps):=by
 obtain⟨v,ps,hrun,hv⟩:=h.look_ok keyI Tryz.underlying123 (zeroFn W) (zd:=.lit (.int .i64 (-1))) (zp:=[]) rfl (keyOf_int_mk Tryz.underlying3 hk)
 exact⟨v,hrun,ps,hv⟩
theorem kinds_1:Maps.has kindsD (.int .i64 1)=true∧kindsD.atKey (.int .i64 1) (.lit (.int .i64 (-1)))=.lit (.int .i64 92):=⟨rfl,rfl⟩
theorem kinds_2:Maps.has kindsD (.int .i64 2)=true∧kindsD.atKey (.int .i64 2) (.lit (.int .i64 (-1)))=.lit (.int .i64 93):=⟨rfl,rfl⟩
theorem kinds_3:Maps.has kindsD (.int .i64 3)=true∧kindsD.atKey (.int .i64 3) (.lit (.int .i64 (-1)))=.lit (.int .i64 94):=⟨rfl,rfl⟩
theorem kinds_4:Maps.has kindsD (.int .i64 4)=true∧kindsD.atKey (.int .i64 4) (.lit (.int .i64 (-1)))=.lit (.int .i64 95):=⟨rfl,rfl⟩
theorem kinds_5:Maps.has kindsD (.int .i64 5)=true∧kindsD.atKey (.int .i64 5) (.lit (.int .i64 (-1)))=.lit (.int .i64 96):=⟨rfl,rfl⟩
end Go.Proofs.YtdochkemaiokfaaGreat