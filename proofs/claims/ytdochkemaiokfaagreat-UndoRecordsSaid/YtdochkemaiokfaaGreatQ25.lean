/- Lemmas on what the functions of the program and of the library compute: Ap1, Ap2. The conditions stand at each. -/
import Derived.Test.YtdochkemaiokfaaGreatQ16
import Derived.Test.YtdochkemaiokfaaGreatQ24
import Derived.Test.YtdochkemaiokfaaGreatQ4
import Derived.Test.YtdochkemaiokfaaGreatQ14
import Derived.Maps.OwnSet
set_option maxHeartbeats 16000000
set_option maxRecDepth 100000
set_option linter.all false
namespace Go.Proofs.YtdochkemaiokfaaGreat
open Go.RowKit
theorem aBo.cast {w0:World} {E:Nat} {R R':Tr} {n n':Int} {e:Ending} {w':World} (h:aBo w0 E R n e w') (hn:n=n') (hR:n=0→R=R'):aBo w0 E R' n' e w':=by
 subst hn;refine⟨h.1,h.2.1,fun h0=>?_⟩;rw[← hR h0];exact h.2.2 h0
section
variable {w0:World} {E:Nat} {bv:Value} {t:Tr} {w:World} {o:Opn}
open Classical in
theorem aBb (hR:aM t) (hf:aP o=true) (h6:o.kind≠6):aT t o=if cW t o≠0 then(⟨[],[]⟩,cW t o) else if aM (oG t o) then(oG t o,0) else(⟨[],[]⟩,15):=by
 unfold aT;rw[if_neg];rintro (h|h|h)
 ·exact h hR
 ·rw[hf] at h
  cases h
 ·exact h6 h
theorem aIq (h:¬ aM t∨aP o=false∨o.kind=6):aT t o=(⟨[],[]⟩,1):=by
 unfold aT;rw[if_pos h]
open Classical in
theorem fO (hR:aM t) (hf:aP o=true) (h6:o.kind≠6) {n:Int} {R:Tr} (hn:n=if cW t o≠0 then cW t o else if aM (oG t o) then 0 else 15) (hT:cW t o=0→R=oG t o):n=(aT t o).2∧(n=0→R=(aT t o).1):=by
 rw[aBb hR hf h6];subst hn;split
 ·rename_i h
  exact⟨rfl,fun h0=>absurd h0 h⟩
 ·rename_i h
  split
  ·exact⟨rfl,fun _=>hT (Classical.not_not.1 h)⟩
  ·exact⟨rfl,fun h0=>by cases h0⟩
theorem do1 (h:EdB w0.heap.size E bv t w) (hG:aA w0 w) (hEnv:Env w0) (hR:aM t) (hf:aP o=true) (hk:o.kind=1):Calls Tryz.prog 92 #[.pointer (some ⟨E,0,none⟩),o.agg] w (aBo w0 E (aT t o).1 (aT t o).2):=by
 have hx:=fO (R:=fF t o) hR hf (by rw[hk];decide) (n:=yM t o) (by unfold yM;rw[aFw hk,aLr hk]) (fun _=>(aLr hk).symm);exact(aRv h hG hEnv (bL hR) o hf hk).mono fun e w' hm=>hm.cast hx.1 hx.2
theorem do2 (h:EdB w0.heap.size E bv t w) (hG:aA w0 w) (hEnv:Env w0) (hR:aM t) (hf:aP o=true) (hk:o.kind=2):Calls Tryz.prog 93 #[.pointer (some ⟨E,0,none⟩),o.agg] w (aBo w0 E (aT t o).1 (aT t o).2):=by
 cases hb:aE t.brs o.unit with
 | none =>
  have h7:eI t o=7:=by unfold eI;rw[hb]
  have hx:=fO (R:=t) hR hf (by rw[hk];decide) (n:=7) (by rw[rW hk,h7];simp) (fun h0=>by rw[rW hk,h7] at h0;cases h0);exact(aRu h hG (jF (bL hR)) o hb t).mono fun e w' hm=>hm.cast hx.1 hx.2
 | some u =>
  have hx:=fO (R:=jM t o u) hR hf (by rw[hk];decide) (n:=aIy t o u) (by unfold aIy;rw[rW hk,aLq hk hb]) (fun _=>(aLq hk hb).symm);exact(bAi h hG hEnv hR (bL hR) o hk hb).mono fun e w' hm=>hm.cast hx.1 hx.2
theorem do3 (h:EdB w0.heap.size E bv t w) (hG:aA w0 w) (hR:aM t) (hf:aP o=true) (hk:o.kind=3):Calls Tryz.prog 94 #[.pointer (some ⟨E,0,none⟩),o.agg] w (aBo w0 E (aT t o).1 (aT t o).2):=by
 have h6:o.kind≠6:=by rw[hk];decide
 have hx:(if (aE t.brs o.unit).isSome then(0:Int) else 7)=(aT t o).2∧((if (aE t.brs o.unit).isSome then(0:Int) else 7)=0→(jX t o.unit fun b=>{ b with title:=o.title })=(aT t o).1):=by
  cases hb:aE t.brs o.unit with
  | none =>
   have h7:gW t o=7:=by unfold gW;rw[hb]
   exact fO hR hf h6 (by rw[eS (.inl hk),h7];simp) (fun h0=>by rw[eS (.inl hk),h7] at h0;cases h0)
  | some u =>
   have h0:gW t o=0:=by
    unfold gW;rw[hb];simp[hk]
   have hS:=qF (bL hR) hf h6 (by rw[eS (.inl hk),h0]);rw[aFc hk hb] at hS;have hT:=sZ hR o.unit (fun b=>{ b with title:=o.title }) (fun b=>⟨rfl,rfl⟩) hS;refine fO hR hf h6 ?_ (fun _=>(aFc hk hb).symm);show(0:Int)=_;rw[eS (.inl hk),h0,aFc hk hb,if_neg b_54,if_pos hT]
 exact(aRs h hG (jF (bL hR)) o).mono fun e w' hm=>hm.cast hx.1 hx.2
theorem do4 (h:EdB w0.heap.size E bv t w) (hG:aA w0 w) (hR:aM t) (hf:aP o=true) (hk:o.kind=4):Calls Tryz.prog 95 #[.pointer (some ⟨E,0,none⟩),o.agg] w (aBo w0 E (aT t o).1 (aT t o).2):=by
 have h6:o.kind≠6:=by rw[hk];decide
 have hx:(if (aE t.brs o.unit).isSome then(if gF t o.mark o.unit then(19:Int) else 0) else 7)=(aT t o).2∧((if (aE t.brs o.unit).isSome then(if gF t o.mark o.unit then(19:Int) else 0) else 7)=0→(jX t o.unit fun b=>{ b with mark:=o.mark })=(aT t o).1):=by
  cases hb:aE t.brs o.unit with
  | none =>
   have h7:gW t o=7:=by unfold gW;rw[hb]
   exact fO hR hf h6 (by rw[eS (.inr hk),h7];simp) (fun h0=>by rw[eS (.inr hk),h7] at h0;cases h0)
  | some u =>
   cases hu:gF t o.mark o.unit with
   | true =>
    have h19:gW t o=19:=by
     unfold gW;rw[hb];simp[hk,hu]
    exact fO hR hf h6 (by rw[eS (.inr hk),h19];simp) (fun h0=>by rw[eS (.inr hk),h19] at h0;cases h0)
   | false =>
    have h0:gW t o=0:=by
     unfold gW;rw[hb];simp[hu]
    have hS:=qF (bL hR) hf h6 (by rw[eS (.inr hk),h0]);rw[aFb hk hb] at hS;have hT:=sZ hR o.unit (fun b=>{ b with mark:=o.mark }) (fun b=>⟨rfl,rfl⟩) hS;refine fO hR hf h6 ?_ (fun _=>(aFb hk hb).symm);show(0:Int)=_;rw[eS (.inr hk),h0,aFb hk hb,if_neg b_54,if_pos hT]
 exact(bAj h hG (jF (bL hR)) o).mono fun e w' hm=>hm.cast hx.1 hx.2
theorem do5 (h:EdB w0.heap.size E bv t w) (hG:aA w0 w) (hR:aM t) (hf:aP o=true) (hk:o.kind=5):Calls Tryz.prog 96 #[.pointer (some ⟨E,0,none⟩),o.agg] w (aBo w0 E (aT t o).1 (aT t o).2):=by
 have h6:o.kind≠6:=by rw[hk];decide
 have hx:mJ t o=(aT t o).2:=by
  refine(fO (R:=oG t o) hR hf h6 ?_ fun _=>rfl).1;rw[xU hk];split
  ·rfl
  ·rename_i h0
   have h00:mJ t o=0:=Classical.not_not.1 h0;obtain⟨u,hb⟩:=aHx (by rw[xU hk];exact h00) (by rw[hk];decide)
   have hT:aM (oG t o):=by
    rw[aLp hk hb];refine zD hR (bE hb).1 (bE hb).2 ?_;unfold mJ at h00;rw[hb] at h00;by_cases hk0:u.kids=[]
    ·exact hk0
    ·simp[hk0] at h00
   rw[if_pos hT];exact h00
 refine(aRt h hG (jF (bL hR)) o (oG t o) fun u hb=>(aLp hk hb).symm).mono fun e w' hm=>hm.cast hx fun h0=>?_
 have:=(fO (R:=oG t o) (n:=(aT t o).2) hR hf h6 (by
  rw[aBb hR hf h6];split
  ·rfl
  ·split<;>rfl) fun _=>rfl).2 (by rw[← hx];exact h0)
 exact this
end
open Go.Maps (Keyed int_keyed keyOf_int_mk)
theorem bAc (rs:List Int) (l:List Br) (rv bv:Value) (w:World) (hE:Env w) (hr:SlI w rv rs) (hv:bQ w bv l) (hf:cF l) (hrl:rs.length≤1000000) :
  Calls Tryz.prog 98 #[.agg #[rv,bv]] w (bBt (aM ⟨rs,l⟩) w):=by
 have K:=uZ (fun W (hW:aA w W)=>aSx rs l rv bv W (hE.mono hW) (hr.mono hW) (hv.mono hW) hf hrl);clear hE hr hv hf hrl;go_enter Tryz.func98,Tryz.ntmps98;exact c_49
def vN (v:Value):Option (DataW Unit × List MemPlace):=match v with
 | .func (.func f) a c=>if a.size=0∧c.size=0 then some (.lit (.int .i64 (f:Int)),[]) else none
 | .nilFunc=>some (.lit (.int .i64 (-1)),[])
 | _=>none
theorem fN {v:Value} {f:Nat} {ps:List MemPlace} (h:vN v=some (.lit (.int .i64 (f:Int)),ps)):v=.func (.func f) #[] #[]:=by
 unfold vN at h;split at h
 ·rename_i g a c
  split at h
  ·rename_i hs
   have ha:a=#[]:=Array.size_eq_zero_iff.1 hs.1;have hc:c=#[]:=Array.size_eq_zero_iff.1 hs.2;subst ha hc;have h1:(g:Int)=(f:Int)∧[]=ps:=by simpa using h
   have h2:=h1.1;have:g=f:=Int.ofNat_inj.1 h2;rw[this]
  ·cases h
 ·simp at h
 ·cases h
def gU:DataW Unit:=(((((DataW.map []).put (.int .i64 1) (.lit (.int .i64 92))).put (.int .i64 2) (.lit (.int .i64 93))).put (.int .i64 3) (.lit (.int .i64 94))).put (.int .i64 4) (.lit (.int .i64 95))).put (.int .i64 5) (.lit (.int .i64 96))
theorem aQz {k:Int} (h1:k≠1) (h2:k≠2) (h3:k≠3) (h4:k≠4) (h5:k≠5):Maps.has gU (.int .i64 k)=false:=by
 unfold gU;rw[Maps.has_put_other (by simpa using h5),Maps.has_put_other (by simpa using h4),Maps.has_put_other (by simpa using h3),Maps.has_put_other (by simpa using h2),Maps.has_put_other (by simpa using h1)];rfl
theorem aXg:Keyed Tryz.prog 3:=int_keyed Tryz.underlying3
theorem aOu {k:Int} (h:0≤k∧k≤1073741824):(Lit.int .i64 k).wf=true:=WalkArith.wf_i64 b_53
theorem dQ (W:World):∃ W1 W2 W3 W4 W5,(Instr.mapUpdate 123 (.map (some W.heap.size)) (.int .i64 1) (.func (.func 92) #[] #[])).run Tryz.prog (W.alloc (.map #[] 0))=.ok () W1 ∧
  (Instr.mapUpdate 123 (.map (some W.heap.size)) (.int .i64 2) (.func (.func 93) #[] #[])).run Tryz.prog W1=.ok () W2 ∧
  (Instr.mapUpdate 123 (.map (some W.heap.size)) (.int .i64 3) (.func (.func 94) #[] #[])).run Tryz.prog W2=.ok () W3 ∧
  (Instr.mapUpdate 123 (.map (some W.heap.size)) (.int .i64 4) (.func (.func 95) #[] #[])).run Tryz.prog W3=.ok () W4 ∧
  (Instr.mapUpdate 123 (.map (some W.heap.size)) (.int .i64 5) (.func (.func 96) #[] #[])).run Tryz.prog W4=.ok () W5 ∧
  W5.ownsMap Tryz.prog 3 vN W.heap.size 5 gU∧aA W W5:=by
 have ht:=Tryz.underlying123;have hk:∀ k:Int,0≤k→k≤5→keyOf Tryz.prog 3 (.int .i64 k)=some (.int .i64 k):=fun k h0 h5=>keyOf_int_mk Tryz.underlying3 (aOu ⟨h0,by omega⟩)
 have h0:=World.ownsMap_made W Tryz.prog 3 vN;have g0:aA W (W.alloc (.map #[] 0)):=(uX W).alloc _;obtain⟨W1,e1,h1,r1⟩:=h0.update aXg ht b_52 (hk 1 b_53 b_53) (val:=.func (.func 92) #[] #[]) (d:=.lit (.int .i64 92)) (ps:=[]) rfl;have g1:aA W W1:=Below.grown g0 r1 g0.size (fun b hb=>by cases hb;exact Nat.le_refl _);obtain⟨W2,e2,h2,r2⟩:=h1.update aXg ht b_52 (hk 2 b_53 b_53) (val:=.func (.func 93) #[] #[]) (d:=.lit (.int .i64 93)) (ps:=[]) rfl;have g2:aA W W2:=Below.grown g1 r2 g1.size (fun b hb=>by cases hb;exact Nat.le_refl _);obtain⟨W3,e3,h3,r3⟩:=h2.update aXg ht b_52 (hk 3 b_53 b_53) (val:=.func (.func 94) #[] #[]) (d:=.lit (.int .i64 94)) (ps:=[]) rfl;have g3:aA W W3:=Below.grown g2 r3 g2.size (fun b hb=>by cases hb;exact Nat.le_refl _);obtain⟨W4,e4,h4,r4⟩:=h3.update aXg ht b_52 (hk 4 b_53 b_53) (val:=.func (.func 95) #[] #[]) (d:=.lit (.int .i64 95)) (ps:=[]) rfl;have g4:aA W W4:=Below.grown g3 r4 g3.size (fun b hb=>by cases hb;exact Nat.le_refl _);obtain⟨W5,e5,h5,r5⟩:=h4.update aXg ht b_52 (hk 5 b_53 b_53) (val:=.func (.func 96) #[] #[]) (d:=.lit (.int .i64 96)) (ps:=[]) rfl;have g5:aA W W5:=Below.grown g4 r5 g4.size (fun b hb=>by cases hb;exact Nat.le_refl _);exact⟨W1,W2,W3,W4,W5,e1,e2,e3,e4,e5,h5,g5⟩
theorem aXn (w:World):(zeroValue 121).run Tryz.prog w=.ok .nilFunc w:=by kernel_rfl
theorem dR {W:World} {b:Nat} (h:W.ownsMap Tryz.prog 3 vN b 5 gU) {k:Int} (hk:(Lit.int .i64 k).wf=true) :
  ∃ v,(Instr.lookup 123 (.map (some b)) (.int .i64 k) true).run Tryz.prog W=.ok (.tuple #[v,.bool (Maps.has gU (.int .i64 k))]) W∧∃ ps,vN v=some (gU.atKey (.int .i64 k) (.lit (.int .i64 (-1))),ps):=by
 obtain⟨v,ps,hrun,hv⟩:=h.look_ok aXg Tryz.underlying123 (aXn W) (zd:=.lit (.int .i64 (-1))) (zp:=[]) rfl (keyOf_int_mk Tryz.underlying3 hk);exact⟨v,hrun,ps,hv⟩
theorem aDc:Maps.has gU (.int .i64 1)=true∧gU.atKey (.int .i64 1) (.lit (.int .i64 (-1)))=.lit (.int .i64 92):=⟨rfl,rfl⟩
theorem aDb:Maps.has gU (.int .i64 2)=true∧gU.atKey (.int .i64 2) (.lit (.int .i64 (-1)))=.lit (.int .i64 93):=⟨rfl,rfl⟩
theorem aDa:Maps.has gU (.int .i64 3)=true∧gU.atKey (.int .i64 3) (.lit (.int .i64 (-1)))=.lit (.int .i64 94):=⟨rfl,rfl⟩
theorem aCz:Maps.has gU (.int .i64 4)=true∧gU.atKey (.int .i64 4) (.lit (.int .i64 (-1)))=.lit (.int .i64 95):=⟨rfl,rfl⟩
theorem aCy:Maps.has gU (.int .i64 5)=true∧gU.atKey (.int .i64 5) (.lit (.int .i64 (-1)))=.lit (.int .i64 96):=⟨rfl,rfl⟩
end Go.Proofs.YtdochkemaiokfaaGreat
