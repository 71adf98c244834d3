/- Lemmas on what the functions of the program and of the library compute: Rg0, Held, Rg2, Rg3, StO. The conditions stand at each. -/
import Derived.Test.YtdochkemaiokfaaGreatQ38
import Derived.Test.YtdochkemaiokfaaGreatQ16
import Derived.Test.YtdochkemaiokfaaGreatQ1
import Derived.OrdersHeld
import Derived.Deep.RegionHeld
import Derived.Test.YtdochkemaiokfaaGreatQ8
import Derived.Deep.CutRange
import Derived.Deep.RegionHeld3
import Derived.Test.YtdochkemaiokfaaGreatQ23
import Derived.Test.YtdochkemaiokfaaGreatQ37
import Derived.Test.YtdochkemaiokfaaGreatQ14
set_option maxHeartbeats 16000000
set_option maxRecDepth 100000
set_option linter.all false
namespace Go.Proofs.YtdochkemaiokfaaGreat
open Go.RowKit
theorem qG (b:Br):∀(l:List Br) (k:Nat),k≤l.length→(∀ j (h:j<l.length),j<k→l[j].id<b.id)→(∀ h:k<l.length,¬ l[k].id<b.id)→lI b l=l.take k++b::l.drop k
 | [],k,hk,_,_=>by
  obtain rfl:k=0:=by simpa using hk
  rfl
 | x::r,0,_,_,h2=>by
  have h:=h2 b_54;simp only [List.getElem_cons_zero] at h;rw[lI,if_neg h];rfl
 | x::r,k+1,hk,h1,h2=>by
  have h:=h1 0 b_54 b_53;simp only [List.getElem_cons_zero] at h;rw[lI,if_pos h,qG b r k (by simpa using hk) (fun j hj hjk=>by have:=h1 (j+1) (by simpa using hj) b_53;simpa using this) (fun hj=>by have:=h2 (by simpa using hj);simpa using this)];rfl
theorem aQi {w:World} {cs:List BrC} {l:List Br} {c:BrC} {b:Br} (hl:cs.length=l.length) (h:∀ i (hi:i<cs.length) (hi':i<l.length),vW w cs[i] l[i]) (hc:vW w c b) (k:Nat) (hk:k≤l.length) :
  (cs.take k++c::cs.drop k).length=(l.take k++b::l.drop k).length∧∀ i (hi:i<(cs.take k++c::cs.drop k).length) (hi':i<(l.take k++b::l.drop k).length),vW w (cs.take k++c::cs.drop k)[i] (l.take k++b::l.drop k)[i]:=by
 have h1:(cs.take k).length=k:=by rw[List.length_take];omega
 have h2:(l.take k).length=k:=by rw[List.length_take];omega
 refine⟨by simp[hl],fun i hi hi'=>?_⟩;by_cases e:i<k
 ·rw[List.getElem_append_left b_53,List.getElem_append_left b_53,List.getElem_take,List.getElem_take]
  exact h i b_53 b_53
 ·rw[List.getElem_append_right b_53,List.getElem_append_right b_53]
  simp only [h1,h2];by_cases e2:i=k
  ·subst e2
   simp only [Nat.sub_self,List.getElem_cons_zero];exact hc
  ·obtain⟨m,hm⟩:∃ m,i-k=m+1:=⟨i-k-1,by omega⟩
   simp only [hm,List.getElem_cons_succ,List.getElem_drop];exact h _ _ _
theorem nH {w w0:World} {base:Nat} {v:Value} {cs:List BrC} {l:List Br} {b:Br} {k m:Nat} (hg:aA w0 w) (hl:cs.length=l.length) (h:∀ i (hi:i<cs.length) (hi':i<l.length),vW w0 cs[i] l[i]) (hk:k≤l.length) (hkid:b.kids=[])
  (ho:w.ownsRow base 66 6 v m ([]++(cs.take k).flatMap BrC.cells++[.int .i64 b.id,.int .i64 b.parent,.int .i64 b.level,.string b.title,.string b.mark,.slice none 0 0]++(cs.drop k).flatMap BrC.cells)) (hins:lI b l=l.take k++b::l.drop k):bQ w v (lI b l):=by
 have e:([]++(cs.take k).flatMap BrC.cells++[.int .i64 b.id,.int .i64 b.parent,.int .i64 b.level,.string b.title,.string b.mark,.slice none 0 0]++(cs.drop k).flatMap BrC.cells)=(cs.take k++b.c (.slice none 0 0)::cs.drop k).flatMap BrC.cells:=by simp[BrC.cells,Br.c]
 rw[e] at ho;have hc:vW w0 (b.c (.slice none 0 0)) b:=⟨rfl,by rw[hkid];exact SlI.nil w0⟩
 obtain⟨h1,h2⟩:=aQi hl h hc k hk;rw[hins];exact⟨_,Rd.of_own ho,h1,fun i hi hi'=>(h2 i hi hi').mono hg⟩
theorem jJ {W0 W:World} {X:Nat} {T:Tr} {rv bv v:Value} {l:List Br} (hX:W.heap[X]? = some (.cells #[rv,bv] 43 (0,0))) (hlo:W0.heap.size≤X) (hG:aA W0 W) (h:dF W rv bv T) (hv:bQ W v l):aGk W0 X ⟨T.roots,l⟩ (W.setCell ⟨X,1,none⟩ v):=by
 have k1:=heap_setCell_same W X 1 #[rv,bv] 43 v hX;obtain⟨s0,s1⟩:=bK h;have h2:dF W rv v ⟨T.roots,l⟩:=⟨h.1,hv⟩
 exact⟨rv,v,by simpa using k1,h2.setS hX s0 s1,hG.setCell hlo _⟩
theorem aGa {W:World} {B:Nat} {v0 v1 v2 v3 v4 v5:Value} (h:W.heap[B]? = some (.cells #[v0,v1,v2,v3,v4,v5] 66 (0,0))):W.cell? ⟨B,0,none⟩=some v0∧W.cell? ⟨B,1,none⟩=some v1∧W.cell? ⟨B,2,none⟩=some v2∧W.cell? ⟨B,3,none⟩=some v3∧W.cell? ⟨B,4,none⟩=some v4∧W.cell? ⟨B,5,none⟩=some v5:=by
 simp[World.cell?,h]
theorem wC {WZ W W2:World} {B:Nat} {v0 v1 v2 v3 v4 v5:Value} (h:(W.cell? ⟨B,0,none⟩=some v0∧W.cell? ⟨B,1,none⟩=some v1∧W.cell? ⟨B,2,none⟩=some v2∧W.cell? ⟨B,3,none⟩=some v3∧W.cell? ⟨B,4,none⟩=some v4∧W.cell? ⟨B,5,none⟩=some v5)∧aA WZ W) (g:aA W W2) :
  (W2.cell? ⟨B,0,none⟩=some v0∧W2.cell? ⟨B,1,none⟩=some v1∧W2.cell? ⟨B,2,none⟩=some v2∧W2.cell? ⟨B,3,none⟩=some v3∧W2.cell? ⟨B,4,none⟩=some v4∧W2.cell? ⟨B,5,none⟩=some v5)∧aA WZ W2 :=
 ⟨⟨uQ g h.1.1,uQ g h.1.2.1,uQ g h.1.2.2.1,uQ g h.1.2.2.2.1,uQ g h.1.2.2.2.2.1,uQ g h.1.2.2.2.2.2⟩,h.2.trans g⟩
theorem bD {WZ W W2:World} {B:Nat} {v0 v1 v2 v3 v4 v5 v6:Value} {A:Addr} (h:((W.cell? ⟨B,0,none⟩=some v0∧W.cell? ⟨B,1,none⟩=some v1∧W.cell? ⟨B,2,none⟩=some v2∧W.cell? ⟨B,3,none⟩=some v3∧W.cell? ⟨B,4,none⟩=some v4∧W.cell? ⟨B,5,none⟩=some v5)∧aA WZ W)∧W.cell? A=some v6) (g:aA W W2) :
  ((W2.cell? ⟨B,0,none⟩=some v0∧W2.cell? ⟨B,1,none⟩=some v1∧W2.cell? ⟨B,2,none⟩=some v2∧W2.cell? ⟨B,3,none⟩=some v3∧W2.cell? ⟨B,4,none⟩=some v4∧W2.cell? ⟨B,5,none⟩=some v5)∧aA WZ W2)∧W2.cell? A=some v6:=⟨wC h.1 g,uQ g h.2⟩
theorem wW {w:World} {cs:List BrC} {l:List Br} (hl:cs.length=l.length) (h:∀ i (hi:i<cs.length) (hi':i<l.length),vW w cs[i] l[i]):∀ c∈cs,c.kv.oneCell'=true:=fun c hc=>by
 obtain⟨i,hi,rfl⟩:=List.mem_iff_getElem.1 hc;exact aJv (h i hi b_53).2
theorem aEt (t:Tr) (p:Int) (ks:List Int):(iD t p ks).brs.length=t.brs.length:=by
 unfold iD;simp
end Go.Proofs.YtdochkemaiokfaaGreat
namespace Go.Proofs.YtdochkemaiokfaaGreat
open Go
section
variable {P:Program} {ops:Array Oper} {Q:Exit→Act→World→Prop} {md:Region.Mode} {S:World→Prop} {z:Nat}
def gM (md:Region.Mode) (ops:Array Oper) (i:Nat) (listed:Array Bool):Nat→Nat→Bool
 | 0,_=>false
 | f+1,j=>!listed.getD j true && ((ops[j]?).map fun o=>o.after.any fun e=>Region.binds md e && (e.on == i || gM md ops i listed f e.on)).getD false
theorem aGo {i f j:Nat} {listed:Array Bool} (h:gM md ops i listed f j=true):listed.getD j true=false:=by
 cases f with
 | zero=>cases h
 | succ f =>
  unfold gM at h;simp only [Bool.and_eq_true,Bool.not_eq_true'] at h;exact h.1
theorem uG {i f j:Nat} {listed:Array Bool} (hi:listed.getD i true=false) (h:gM md ops i listed f j=true):j∉Region.ready md ops listed:=by
 cases f with
 | zero=>cases h
 | succ f =>
  unfold gM at h;simp only [Bool.and_eq_true] at h;intro hj;obtain⟨-,o,ho,hall⟩:=mem_ready.1 hj;have h2:=h.2;rw[ho] at h2;simp only [Option.map_some,Option.getD_some,Array.any_eq_true',Bool.and_eq_true,Bool.or_eq_true,beq_iff_eq] at h2;obtain⟨e,he,hb,hon⟩:=h2;have hd:=hall e he hb
  have hcon:∀ k,listed.getD k true=false→listed.getD k false=true→False:=fun k h1 h2=>by
   rcases Nat.lt_or_ge k listed.size with hk|hk
   ·simp[hk] at h1 h2
    rw[h1] at h2;cases h2
   ·simp[Array.getElem?_eq_none hk] at h1
  rcases hon with rfl|hon
  ·exact hcon _ hi hd
  ·exact hcon _ (aGo hon) hd
theorem aEm {i k:Nat} {listed:Array Bool} (hi:listed.getD i true=false) (hk:k∈Region.ready md ops listed):∀ f j,gM md ops i listed f j=true→gM md ops i (listed.setIfInBounds k true) f j=true
 | 0,_,h=>h
 | f+1,j,h=>by
  have hne:k≠j:=fun e=>uG hi h (e▸hk)
  unfold gM at h ⊢;rw[getD_set_ne true hne];simp only [Bool.and_eq_true] at h ⊢;refine⟨h.1,?_⟩;have h2:=h.2
  cases ho:ops[j]? with
  | none=>rw[ho] at h2;cases h2
  | some o =>
   rw[ho] at h2;simp only [Option.map_some,Option.getD_some,Array.any_eq_true',Bool.and_eq_true,Bool.or_eq_true,beq_iff_eq] at h2 ⊢;obtain⟨e,he,hb,hon⟩:=h2;exact⟨e,he,hb,hon.imp id (aEm hi hk f e.on)⟩
def lH (P:Program) (md:Region.Mode) (ops:Array Oper) (Q:Exit→Act→World→Prop) (S:World→Prop) (z:Nat):Nat→Array Bool→Act→World→Prop
 | 0,listed,a,w=>Region.ready md ops listed=[]∧Q .normal a w
 | f+1,listed,a,w=>(Region.ready md ops listed=[]→Q .normal a w)∧∀ i∈Region.ready md ops listed,wpOp P ops Q i (fun a' w'=>(i≠z→S w')∧lH P md ops Q S z f (listed.setIfInBounds i true) a' w') a w
theorem aGi:∀(f:Nat) (listed:Array Bool) (a:Act) (w:World),lH P md ops Q S z f listed a w→wpAny P md ops Q f listed a w
 | 0,_,_,_,h=>h
 | f+1,_,_,_,h=>⟨h.1,fun i hi=>wpOp_mono (fun a' w' h'=>aGi f _ a' w' h'.2) (h.2 i hi)⟩
theorem bAb {i F:Nat} {oi:Oper} {v:Value} (hi:ops[i]? = some oi) (hsel:∀(j:Nat) (o:Oper) cs b,ops[j]? = some o→o.op≠.select cs b) (hQ:∀ c a w,Q (.panic c) (a.put oi.dst v) w→Q (.panic c) a w) :
  ∀(f:Nat) (listed:Array Bool) (a:Act) (w:World),(∀ j oj,ops[j]? = some oj→j≠i→listed.getD j true=false→(∀ e∈oj.after,Region.binds md e=true→e.on≠i)→oi.apart ops oj=true) →
   i∈Region.ready md ops listed→gM md ops i listed F z=true→YieldsIf P ops S oi v a→S w →
   lH P md ops Q S z f (listed.setIfInBounds i true) (a.put oi.dst v) w→lH P md ops Q S z (f+1) listed a w:=by
 intro f
 induction f with
 | zero =>
  intro listed a w _ hr _ hy hS H;refine⟨fun h=>absurd hr (by rw[h];exact List.not_mem_nil),fun j hj=>?_⟩;by_cases e:j=i
  ·subst e
   exact hy.wpOp hi hS ⟨fun _=>hS,H⟩
  ·have:=ready_mono hj e
   rw[H.1] at this;exact absurd this List.not_mem_nil
 | succ f ih =>
  intro listed a w hfree hr hwz hy hS H;refine⟨fun h=>absurd hr (by rw[h];exact List.not_mem_nil),fun j hj=>?_⟩;by_cases e:j=i
  ·subst e
   exact hy.wpOp hi hS ⟨fun _=>hS,H⟩
  have hun:=(mem_ready.1 hr).1;have hjz:j≠z:=fun h=>uG hun hwz (h▸hj)
  obtain⟨hjun,oj,hoj,hall⟩:=mem_ready.1 hj
  have hno:∀ e∈oj.after,Region.binds md e=true→e.on≠i:=fun e he hb h=>by
   have h1:=hall e he hb;rw[h] at h1;rcases Nat.lt_or_ge i listed.size with hk|hk
   ·simp[hk] at h1 hun
    rw[h1] at hun;cases hun
   ·simp[Array.getElem?_eq_none hk] at hun
  refine wpOp_mono (fun a' w' h3=>⟨h3.2.1,ih _ a' w' (fun k ok hok hki hkun hkno=>?_) (ready_mono hr fun h=>e h.symm) (aEm hun hj F z hwz) h3.1 (h3.2.1 hjz) ?_⟩) (wpOp_putIf hoj (hfree j oj hoj e hjun hno) (fun cs b=>hsel i oi cs b hi) (fun cs b=>hsel j oj cs b hoj) hQ hy (H.2 j (ready_mono hj e)))
  ·refine hfree k ok hok hki ?_ hkno
   by_cases hjk:j=k
   ·exact hjk▸hjun
   ·rw[getD_set_ne true hjk] at hkun
    exact hkun
  ·rw[Array.setIfInBounds_comm _ _ e]
   exact h3.2.2
theorem iH {i:Nat} (F:Nat) {oi:Oper} {v:Value} {f:Nat} {listed:Array Bool} {a:Act} {w:World} (hi:ops[i]? = some oi) (hs:Region.noSelect ops=true) (hf:Region.free md ops listed i=true) (hr:(Region.ready md ops listed).contains i=true) (hw:gM md ops i listed F z=true)
  (hQ:∀ c a w,Q (.panic c) (a.put oi.dst v) w→Q (.panic c) a w) (hy:YieldsIf P ops S oi v a) (hS:S w) (h:lH P md ops Q S z f (listed.setIfInBounds i true) (a.put oi.dst v) w):lH P md ops Q S z (f+1) listed a w :=
 bAb hi (Region.noSelect_spec hs) hQ f listed a w (Region.free_spec hi hf) (by simpa using hr) hw hy hS h
def fL (P:Program) (md:Region.Mode) (ops:Array Oper) (Q:Exit→Act→World→Prop) (S:World→Prop) (z f:Nat) (listed:Array Bool) (a:Act) (w:World) (rs:List Nat):Prop :=
 ∀ i∈rs,wpOp P ops Q i (fun a' w'=>(i≠z→S w')∧lH P md ops Q S z f (listed.setIfInBounds i true) a' w') a w
theorem fL.nil {f:Nat} {listed:Array Bool} {a:Act} {w:World}:fL P md ops Q S z f listed a w []:=fun _ h=>absurd h List.not_mem_nil
theorem fL.cons {f:Nat} {listed:Array Bool} {a:Act} {w:World} {i:Nat} {o:Oper} {rs:List Nat} (ho:ops[i]? = some o)
  (h:∀ K':Act→World→Prop,Shut (∀ a w,S w→(S w→lH P md ops Q S z f (listed.setIfInBounds i true) a w)→K' a w)→if Region.wanted o (yielded ops a.tmps)=true then Oper.wp P o a w K' Q else K' (a.put o.dst undef) w)
  (hs:fL P md ops Q S z f listed a w rs):fL P md ops Q S z f listed a w (i::rs):=fun j hj=>by
 rcases List.mem_cons.1 hj with rfl|hj
 ·exact wpOp_step ho (fun K' hK=>h K' (fun a w hS hW=>hK a w ⟨fun _=>hS,hW hS⟩))
 ·exact hs j hj
theorem fL.last {f:Nat} {listed:Array Bool} {a:Act} {w:World} {o:Oper} (ho:ops[z]? = some o)
  (h:∀ K':Act→World→Prop,Shut (∀ a w,lH P md ops Q S z f (listed.setIfInBounds z true) a w→K' a w)→if Region.wanted o (yielded ops a.tmps)=true then Oper.wp P o a w K' Q else K' (a.put o.dst undef) w):fL P md ops Q S z f listed a w [z]:=fun j hj=>by
 obtain rfl:=List.mem_singleton.1 hj;exact wpOp_step ho (fun K' hK=>h K' (fun a w hW=>hK a w ⟨fun h=>absurd rfl h,hW⟩))
theorem dW {rs:List Nat} {f:Nat} {listed:Array Bool} {a:Act} {w:World} (hr:Region.ready md ops listed=rs) (hne:rs≠[]) (h:fL P md ops Q S z f listed a w rs):lH P md ops Q S z (f+1) listed a w :=
 ⟨fun h0=>absurd (hr▸h0) hne,hr▸h⟩
theorem aIc {listed:Array Bool} {a:Act} {w:World} (hr:Region.ready md ops listed=[]) (h:Q .normal a w):∀ f,lH P md ops Q S z f listed a w
 | 0=>⟨hr,h⟩
 | _+1=>⟨fun _=>h,by rw[hr];exact fun _ h=>absurd h List.not_mem_nil⟩
theorem aKc {id:Nat} {a:Act} {w:World} (z:Nat) (hm:P.follows .mixedOrders=true) (hS:S w.drew) (h:S w.drew→lH P .any ops Q S z ops.size (Array.replicate ops.size false) a w.drew):(Code.region id ops true).wp P Q a w :=
 wp_region_any hm (aGi _ _ _ _ (h hS))
end
end Go.Proofs.YtdochkemaiokfaaGreat
namespace Go.Proofs.YtdochkemaiokfaaGreat
open Go.RowKit
theorem f_1 {p:Prop} (h:p:=by
 refine hK.out _ _ (bD HSV.out b_9) (fun hHeld=>?_);clear hK K
 try simp only [Act.put,List.setIfInBounds_toArray,List.set_cons_zero,List.set_cons_succ]
 refine dW (rs:=[8]) (by kernel_rfl) b_54 ?_;refine fL.cons rfl (fun K hK=>?_) fL.nil
 (refine eM (o:=⟨some 112,_,_,_,_,_⟩) b_55 (.tmp 109) (.tmp 111) 41 b_55 WZ 66 i0 (.agg #[.int .i64 0,.int .i64 0,.int .i64 0,.string ⟨#[]⟩,.string ⟨#[]⟩,.slice none 0 0]) 6 80 Tryz.underlying41 hi0 hz0 hz1 hz2 rfl hsz6 _ (0+kk) ([]++(cs.take kk).flatMap BrC.cells) b_55 _ b_24 b_6 _ 1 [.int .i64 u,.int .i64 p,.int .i64 l,.string tt,.string m,.slice none 0 0] b_55 (by first|exact gE _ rfl _ b_54|exact eO rfl b_52 b_53 (fun j y hy=>by rcases j with _|_|_|_|_|_|j<;>simp at hy<;>subst hy<;>exact X1.out _ _ b_54 b_42)) rfl hone hq63 hqb ?_;intro v2 w2a o2 g2 q2 z2;have O2:=uZ o2;have G2a:=uZ g2;have xa2:=uQ G2a.out xz1;have HXa2:=uZ (uK G2a.out HXZ.out);clear o2 g2 q2)
 refine hK.out _ _ (bD HSV.out b_9) (fun hHeld=>?_);clear hK K
 try simp only [Act.put,List.setIfInBounds_toArray,List.set_cons_zero,List.set_cons_succ]
 refine dW (rs:=[13]) (by kernel_rfl) b_54 ?_;refine fL.cons rfl (fun K hK=>?_) fL.nil
 (refine eM (o:=⟨some 117,_,_,_,_,_⟩) b_55 (.tmp 112) (.tmp 116) 41 b_55 WZ 66 i0 (.agg #[.int .i64 0,.int .i64 0,.int .i64 0,.string ⟨#[]⟩,.string ⟨#[]⟩,.slice none 0 0]) 6 80 Tryz.underlying41 hi0 hz0 hz1 hz2 rfl hsz6 _ (0+kk+1) ([]++(cs.take kk).flatMap BrC.cells++[.int .i64 u,.int .i64 p,.int .i64 l,.string tt,.string m,.slice none 0 0]) b_55 _ O2.out b_6 _ (T.brs.length-kk) _ b_55 (HSF.out _ b_6) HSL.out (cY _ HO2.out) hs63 hsb ?_;intro v3 w3a o3 g3 q3 z3;obtain⟨Av3,cv3,rfl⟩:=aJ o3;generalize 0+kk+1+(T.brs.length-kk)=m3 at o3 ⊢;have O3:=uZ o3;have G3a:=uZ g3;have xa3:=uQ G3a.out xz1;have HXa3:=uZ (uK G3a.out HXZ.out);clear o3 g3 q3)
 refine hK.out _ _ (bD HSV.out b_9) (fun hHeld=>?_);clear hK K
 try simp only [Act.put,List.setIfInBounds_toArray,List.set_cons_zero,List.set_cons_succ]
 refine iH (i:=14) 2 (v:=?_) rfl (by kernel_rfl) (by kernel_rfl) (by kernel_rfl) (by kernel_rfl) (fun _ _ _ h=>h) (Or.inl ⟨by rfl,?_⟩) b_51 ?_;rotate_left
 ((intro w hSw;(try dsimp only at hSw);go_simp);(try with_reducible rfl))
 try simp only [Act.put]
 refine dW (rs:=[15]) (by kernel_rfl) b_54 ?_;refine fL.last rfl (fun K hK=>?_);obtain⟨-,t1,-,t3⟩:=aQ HXa3.out;go_simp;refine hK.out _ _ ?_;clear hK K
 try simp only [Act.put,List.setIfInBounds_toArray,List.set_cons_zero,List.set_cons_succ]
 refine aIc (by kernel_rfl) ?_ _;go_wp2_with fail;go_meet;exact jJ HXa3.out HLX.out (G5C.out.trans (GX.out.trans G3a.out)) (HT.out.mono (GX.out.trans G3a.out)) (nH (GX.out.trans G3a.out) HCL.out HOK.out hkl rfl O3.out HINS.out)
):p:=h
theorem e_2 {p:Prop} (h:p:=by
 refine fL.cons rfl (fun K hK=>?_) fL.nil;go_simp;refine hK.out _ _ (bD HSV.out b_9) (fun hHeld=>?_);clear hK K
 try simp only [Act.put,List.setIfInBounds_toArray,List.set_cons_zero,List.set_cons_succ]
 refine dW (rs:=[5]) (by kernel_rfl) b_54 ?_;refine fL.cons rfl (fun K hK=>?_) fL.nil
 (refine eM (o:=⟨some 109,_,_,_,_,_⟩) b_55 (.tmp 104) (.tmp 108) 41 b_55 WZ 66 i0 (.agg #[.int .i64 0,.int .i64 0,.int .i64 0,.string ⟨#[]⟩,.string ⟨#[]⟩,.slice none 0 0]) 6 80 Tryz.underlying41 hi0 hz0 hz1 hz2 rfl hsz6 _ 0 [] b_55 _ b_14 b_6 _ kk _ b_55 (HP.out _ b_6) HPL.out (cY _ HO1.out) hp63 hpb ?_;intro v1 w1a o1 g1 q1 z1;have O1:=uZ o1;have G1a:=uZ g1;have X1:=uZ q1;have xa1:=uQ G1a.out xz1;have HXa1:=uZ (uK G1a.out HXZ.out);(try simp at z1);clear o1 g1 q1)
 exact f_1
):p:=h
def zE7:=Unit
theorem zE7.g {p:Prop} (_:zE7) (h:p:=by
 have HS:=uZ (HB.out w5 G5.out).1;go_wp2_with fail;go_cut [12] from 63 to 72 (fun s12 wx=>mO w5 (T) s12 wx)
 case first =>
  as_aux_lemma =>
  go_region_held3 (fun W=>W.cell? ⟨w.heap.size,0,none⟩=some (.slice Ar t.roots.length cr)∧W.cell? ⟨w.heap.size,1,none⟩=some (.slice Ab t.brs.length cb)∧W.cell? ⟨w.heap.size+1,0,none⟩=some (.int .i64 i)∧W.cell? ⟨w.heap.size+1,1,none⟩=some (.int .i64 d)∧W.cell? ⟨w.heap.size+1,2,none⟩=some (.int .i64 k)∧W.cell? ⟨w.heap.size+1,3,none⟩=some (.int .i64 u)∧W.cell? ⟨w.heap.size+1,4,none⟩=some (.int .i64 p)∧W.cell? ⟨w.heap.size+1,5,none⟩=some (.int .i64 b)∧W.cell? ⟨w.heap.size+1,6,none⟩=some (.int .i64 l)∧W.cell? ⟨w.heap.size+1,7,none⟩=some (.string tt)∧W.cell? ⟨w.heap.size+1,8,none⟩=some (.string m)∧W.cell? ⟨w.heap.size+1,9,none⟩=some (.int .i64 x9)∧W.cell? ⟨w.heap.size+1,10,none⟩=some (.int .i64 x10)∧W.cell? ⟨w.heap.size+1,11,none⟩=some (.int .i64 x11)) (exact xK HS.out (by repeat (first|exact uX _|exact GQ2.out|exact GQ1.out|refine uJ ?_|refine uU ?_ _|refine yZ ?_ (by first|exact Nat.le_refl _|exact GQ2.out.size|exact GQ1.out.size|simp) _))) (first|(go_at_call 153;refine(Kpu.out _ _ (SlI.mono HV3.out b_27)).mono ?_;rintro e wq1 ⟨vq1,rfl,hoq1,gq1⟩;have GQ1:=uZ (show aA w5 wq1 from uY b_27 gq1);(first|have Na1:=uZ (show aA (w5.alloc (.cells [.slice none 0 0,.slice none 0 0].toArray 43)) wq1 from uY (uX _).drew gq1)|have Na1:=uZ (show aA (w5.alloc (.cells [.slice none 0 0,.slice none 0 0].toArray 43)) wq1 from uY (uX _) gq1)|skip);have HVq1:=uZ (show SlI wq1 vq1 PUT from Rd.of_own hoq1);clear hoq1;clear gq1)|(go_at_call 152;refine(Kst.out _ _ (HG5.out.trans b_17) (SlI.mono HVq1.out b_27)).mono ?_;rintro e wq2 ⟨rq2,bq2,rfl,htq2,gq2⟩;have GQ2:=uZ (show aA w5 wq2 from uY b_17 gq2);have GL2:=uZ (show aA wq1 wq2 from uY b_27 gq2);(first|have Na2:=uZ (show aA (wq1.alloc (.cells [.slice none 0 0,.slice none 0 0].toArray 43)) wq2 from uY (uX _).drew gq2)|have Na2:=uZ (show aA (wq1.alloc (.cells [.slice none 0 0,.slice none 0 0].toArray 43)) wq2 from uY (uX _) gq2)|skip);(try have Pq1:=uK ((Na1.out).trans GL2.out) (aF (a:=w5) (p:=(.cells [.slice none 0 0,.slice none 0 0].toArray 43)) rfl));(try have pq10:=(aH Pq1).1);(try have pq11:=(aH Pq1).2.1);(try have pq12:=(aH Pq1).2.2.1);(try have pq13:=(aH Pq1).2.2.2);(try have Pq2:=uK (Na2.out) (aF (a:=wq1) (p:=(.cells [.slice none 0 0,.slice none 0 0].toArray 43)) rfl));(try have pq20:=(aH Pq2).1);(try have pq21:=(aH Pq2).2.1);(try have pq22:=(aH Pq2).2.2.1);(try have pq23:=(aH Pq2).2.2.2);obtain⟨⟨Aq2,nq2,kq2,rfl⟩,Bq2,mq2,lq2,rfl⟩:=bK htq2;have HTq2:=uZ htq2;clear htq2;clear gq2))
  all_goals go_wp2_with fail
  all_goals go_meet
  all_goals first|exact fZ GQ2.out HTq2.out|exact cP Pq1 (Nat.le_refl _) GQ2.out HTq2.out|exact cP Pq2 GQ1.out.size GQ2.out HTq2.out
 case rest =>
  skip;obtain⟨X,rvS,bvS,rfl,hX,hlo,hT,hgC⟩:=hcut;obtain⟨wS,hwS⟩:∃ wS,wS=wc:=⟨_,rfl⟩
  subst hwS;have GC:=uZ (G5.out.trans hgC);have HGC:=uZ (HG5.out.trans hgC);have HT:=uZ hT;have HX:=uZ hX;have HLX:=uZ hlo;have G5C:=uZ hgC;obtain⟨cs,hBc,hcl,hok⟩:=hT.2;have HBC:=uZ hBc;have HCL:=uZ hcl;have HOK:=uZ hok;obtain⟨B4,l4,hbv,hl4,hl4m,-⟩:=bQ.open_ hT.2;obtain⟨A4,k4,hrvS,-⟩:=SlI.open_ hT.1;subst hbv hrvS;have HBS:=uZ (bQ.open_ hT.2);unfold maxLen at hl4m;clear hT hgC hlo hX hBc hok HS Kpu Kst hcl;obtain⟨⟨r0,b0,a0,a1,a2,a3,a4,a5,a6,a7,a8,a9,a10,a11⟩,hR⟩:=HB.out _ GC.out;obtain⟨q0,q1,z0,z1⟩:=cL hR;have HR:=uZ hR;clear hR;obtain⟨x0,x1,-,-⟩:=aQ HX.out;go_wp2_with fail;have HBB:=uZ (aF (a:=wS) (p:=(.cells #[.int .i64 u,.int .i64 p,.int .i64 l,.string tt,.string m,.slice none 0 0] 66)) rfl);have GD:=uZ ((uX wS).alloc (.cells #[.int .i64 u,.int .i64 p,.int .i64 l,.string tt,.string m,.slice none 0 0] 66));have hBB0:wS.heap.size<(wS.alloc (.cells #[.int .i64 u,.int .i64 p,.int .i64 l,.string tt,.string m,.slice none 0 0] 66)).heap.size:=by simp
  generalize wS.alloc (.cells #[.int .i64 u,.int .i64 p,.int .i64 l,.string tt,.string m,.slice none 0 0] 66)=wD at HBB GD hBB0 ⊢;generalize wS.heap.size=BB at HBB hBB0 ⊢;clear r0 b0 a0 a1 a2 a3 a4 a5 a6 a7 a8 a9 a10 a11 q0 q1 z0 z1 HR x0 x1;go_loopg [14] T.brs.length (fun gg s14 wr=>∃ kk:Nat,kk≤T.brs.length∧T.brs.length-kk≤gg∧s14=.int .i64 kk∧Aside (∀ j (h:j<T.brs.length),j<kk→T.brs[j].id<u)∧Aside (aA wD wr))
  case atStart=>exact⟨0,by omega,by omega,rfl,(show Aside _ from fun _ _ h=>absurd h (Nat.not_lt_zero _)),(show Aside _ from uX _)⟩
  case round =>
   obtain⟨kk,hkl,hgk,rfl,HK,GW⟩:=hrel;have HGW:=uZ (GD.out.trans GW.out);obtain⟨x0,x1,-,-⟩:=aQ (uK HGW.out HX.out);obtain⟨⟨r0,b0,a0,a1,a2,a3,a4,a5,a6,a7,a8,a9,a10,a11⟩,hR⟩:=HB.out wr (GC.out.trans HGW.out);clear r0 b0 a0 a1 a2 a4 a5 a6 a7 a8 a9 a10 a11 hR x0;by_cases hgo:∃ h:kk<T.brs.length,T.brs[kk].id<u
   ·obtain⟨hlt,hlu⟩:=hgo
    obtain⟨B5,l5,hbv5,hl5,hl5m,hr5⟩:=HBS.out;obtain⟨-,-,rfl⟩:=Value.slice.inj hbv5;obtain⟨bb,off,hBB5,hb5,hcell⟩:=hr5 b_53;obtain rfl:B4=some ⟨bb,off,none⟩:=by rw[← hBB5];exact(Value.slice.inj hbv5).1
    obtain⟨kv,-,hcl5⟩:=hcell kk hlt;obtain⟨c0,-⟩:=hcl5 wr HGW.out;have hltz:(kk:Int)<(T.brs.length:Int):=by omega
    have hd:decide (T.brs[kk].id<u)=true:=by simpa using hlu
    have HK2:=uZ (show ∀ j (h:j<T.brs.length),j<kk+1→T.brs[j].id<u from fun j h hj=>(Nat.lt_succ_iff_lt_or_eq.1 hj).elim (fun e=>HK.out j h e) (fun e=>by subst e;exact hlu));clear hlu hcell hcl5 hbv5 hr5 hBB5;generalize T.brs[kk].id=yi at c0 hd;go_wp2_with fail;go_quiet (fail);go_wp2_with fail;go_roundg (T.brs.length-(kk+1))
    case measure=>omega
    case rel=>exact⟨kk+1,by omega,by omega,by go_num,(show Aside _ from HK2.out),(show Aside _ from GW.out.drewN _)⟩
   ·have hins2:=Hins.out kk hkl HK.out (fun h=>Int.not_lt.1 (fun h2=>hgo ⟨h,h2⟩))
    have HINS:=uZ hins2;clear hins2;go_wp2_with fail;go_cut [101] from 85 to 101 (fun s101 wx=>s101=.bool false∧aA wr wx)
    case first =>
     by_cases hlt:kk<T.brs.length
     ·have hd:decide (T.brs[kk].id<u)=false:=by simp only [decide_eq_false_iff_not];exact fun h=>hgo ⟨hlt,h⟩
      obtain⟨B5,l5,hbv5,hl5,hl5m,hr5⟩:=HBS.out;obtain⟨-,-,rfl⟩:=Value.slice.inj hbv5;obtain⟨bb,off,hBB5,hb5,hcell⟩:=hr5 b_53;obtain rfl:B4=some ⟨bb,off,none⟩:=by rw[← hBB5];exact(Value.slice.inj hbv5).1
      obtain⟨kv,-,hcl5⟩:=hcell kk hlt;obtain⟨c0,-⟩:=hcl5 wr HGW.out;have hltz:(kk:Int)<(T.brs.length:Int):=by omega
      clear hcell hcl5 hbv5 hr5 hBB5 hgo;generalize T.brs[kk].id=yi at c0 hd;go_quiet (fail);go_wp2_with fail;go_meet;exact⟨rfl,(uX _).drewN _⟩
     ·have hltz:decide ((kk:Int)<(T.brs.length:Int))=false:=by simp only [decide_eq_false_iff_not];omega
      clear hgo;go_quiet (fail);go_wp2_with fail;go_meet;exact⟨rfl,(uX _).drewN _⟩
    case rest =>
     obtain⟨rfl,hgx⟩:=hcut;have GX:=uZ (HGW.out.trans hgx);obtain⟨WZ,hWZ⟩:∃ WZ,WZ=wc:=⟨_,rfl⟩
     subst hWZ;have HXZ:=uZ (uK GX.out HX.out);obtain⟨xz0,xz1,fz0,fz1⟩:=aQ HXZ.out;have hsix:=wC ⟨aGa HBB.out,uX wD⟩ (GW.out.trans hgx);have HSX:=uZ (show _∧_ from⟨hsix.1,uX WZ⟩);have hBBZ:BB<WZ.heap.size:=Nat.lt_of_lt_of_le hBB0 (GW.out.trans hgx).size;clear hgx x1 a3 hgo hsix xz0 hBB0;have hcl:=HCL.out;have hkc:kk≤cs.length:=by rw[hcl];exact hkl
     have hsz6:0<6:=by omega
     have e1:=lX Tryz.underlying41 hi0 B4 T.brs.length l4 kk hkl hl4;have e2:=iT Tryz.underlying41 hi0 hz1 B4 T.brs.length l4 kk hkl
     have HP:RowKit.Hid (∀ W,aA WZ W→Rd W 6 (.slice B4 kk l4) ((cs.take kk).flatMap BrC.cells)):=uZ fun W hW=>by
      have h:=lU (Rd.mono HBC.out (GX.out.trans hW)) hkl;rw[(cT (f:=BrC.cells) (k:=6) (fun _=>rfl) cs kk).1] at h;exact h
     have HSF:RowKit.Hid (∀ W,aA WZ W→Rd W 6 (yY B4 T.brs.length l4 kk 6) ((cs.drop kk).flatMap BrC.cells)):=uZ fun W hW=>by
      have h:=oA (Rd.mono HBC.out (GX.out.trans hW)) hkl;rw[(cT (f:=BrC.cells) (k:=6) (fun _=>rfl) cs kk).2] at h;exact h
     generalize yY B4 T.brs.length l4 kk 6=V2 at e2 HSF;have HPL:=uZ (show((cs.take kk).flatMap BrC.cells).length=kk*6 by rw[aL BrC.cells 6 (fun _=>rfl),List.length_take,Nat.min_eq_left hkc]);have HSL:=uZ (show((cs.drop kk).flatMap BrC.cells).length=(T.brs.length-kk)*6 by rw[aL BrC.cells 6 (fun _=>rfl),List.length_drop,hcl]);have hp63:0+kk≤maxLen:=by unfold maxLen;omega
     have hpb:(0+kk)*80≤140737488355328:=by omega
     have hq63:0+kk+1≤maxLen:=by unfold maxLen;omega
     have hqb:(0+kk+1)*80≤140737488355328:=by omega
     have hs63:0+kk+1+(T.brs.length-kk)≤maxLen:=by unfold maxLen;omega
     have hsb:(0+kk+1+(T.brs.length-kk))*80≤140737488355328:=by omega
     have hone:∀ z∈([.int .i64 u,.int .i64 p,.int .i64 l,.string tt,.string m,.slice none 0 0]:List Value),z.oneCell'=true:=by simp[Value.oneCell']
     have HO1:=uZ (fun c (h:c∈cs.take kk)=>wW HCL.out HOK.out c (List.mem_of_mem_take h));have HO2:=uZ (fun c (h:c∈cs.drop kk)=>wW HCL.out HOK.out c (List.mem_of_mem_drop h));clear hcl;go_wp2_with fail;go_cut [] from 104 to 118 (fun wx=>aGk w5 X ⟨T.roots,lI (⟨u,p,l,tt,m,[]⟩:Br) T.brs⟩ wx)
     case first =>
      have HSV:=uZ (show _∧_ from⟨HSX.out,xz1⟩);refine aKc (S:=(fun W=>((W.cell? ⟨BB,0,none⟩=some (.int .i64 u)∧W.cell? ⟨BB,1,none⟩=some (.int .i64 p)∧W.cell? ⟨BB,2,none⟩=some (.int .i64 l)∧W.cell? ⟨BB,3,none⟩=some (.string tt)∧W.cell? ⟨BB,4,none⟩=some (.string m)∧W.cell? ⟨BB,5,none⟩=some (.slice none 0 0))∧aA WZ W)∧W.cell? ⟨X,1,none⟩=some (.slice B4 T.brs.length l4))) 15 (by kernel_rfl) (bD HSV.out b_9) (fun hHeld=>?_);refine iH (i:=1) 2 (v:=?_) rfl (by kernel_rfl) (by kernel_rfl) (by kernel_rfl) (by kernel_rfl) (fun _ _ _ h=>h) (Or.inl ⟨by rfl,?_⟩) b_51 ?_;rotate_left
      ((intro w hSw;(try dsimp only at hSw);go_simp);(try with_reducible rfl))
      try simp only [Act.put,List.setIfInBounds_toArray]
      refine iH (i:=2) 2 (v:=?_) rfl (by kernel_rfl) (by kernel_rfl) (by kernel_rfl) (by kernel_rfl) (fun _ _ _ h=>h) (Or.inl ⟨by rfl,?_⟩) b_51 ?_;rotate_left
      ((intro w hSw;(try dsimp only at hSw);go_simp);(try with_reducible rfl))
      try simp only [Act.put]
      refine iH (i:=3) 2 (v:=?_) rfl (by kernel_rfl) (by kernel_rfl) (by kernel_rfl) (by kernel_rfl) (fun _ _ _ h=>h) (Or.inl ⟨by rfl,?_⟩) b_51 ?_;rotate_left
      ((intro w hSw;(try dsimp only at hSw);go_simp);(try with_reducible rfl))
      try simp only [Act.put]
      refine iH (i:=4) 2 (v:=?_) rfl (by kernel_rfl) (by kernel_rfl) (by kernel_rfl) (by kernel_rfl) (fun _ _ _ h=>h) (Or.inl ⟨by rfl,?_⟩) b_51 ?_;rotate_left
      ((intro w hSw;(try dsimp only at hSw);go_simp);(try with_reducible rfl))
      try simp only [Act.put]
      refine iH (i:=6) 2 (v:=?_) rfl (by kernel_rfl) (by kernel_rfl) (by kernel_rfl) (by kernel_rfl) (fun _ _ _ h=>h) (Or.inl ⟨by rfl,?_⟩) b_51 ?_;rotate_left
      ((intro w hSw;(try dsimp only at hSw);go_simp);(try with_reducible rfl))
      try simp only [Act.put]
      refine iH (i:=9) 2 (v:=?_) rfl (by kernel_rfl) (by kernel_rfl) (by kernel_rfl) (by kernel_rfl) (fun _ _ _ h=>h) (Or.inl ⟨by rfl,?_⟩) b_51 ?_;rotate_left
      ((intro w hSw;(try dsimp only at hSw);go_simp);(try with_reducible rfl))
      try simp only [Act.put]
      refine iH (i:=10) 2 (v:=?_) rfl (by kernel_rfl) (by kernel_rfl) (by kernel_rfl) (by kernel_rfl) (fun _ _ _ h=>h) (Or.inl ⟨by rfl,?_⟩) b_51 ?_;rotate_left
      ((intro w hSw;(try dsimp only at hSw);go_simp);(try with_reducible rfl))
      try simp only [Act.put]
      refine iH (i:=11) 2 (v:=?_) rfl (by kernel_rfl) (by kernel_rfl) (by kernel_rfl) (by kernel_rfl) (fun _ _ _ h=>h) (Or.inl ⟨by rfl,?_⟩) b_51 ?_;rotate_left
      ((intro w hSw;(try dsimp only at hSw);go_simp);(try with_reducible rfl))
      try simp only [Act.put]
      refine iH (i:=12) 2 (v:=?_) rfl (by kernel_rfl) (by kernel_rfl) (by kernel_rfl) (by kernel_rfl) (fun _ _ _ h=>h) (Or.inl ⟨by rfl,?_⟩) b_51 ?_;rotate_left
      ((intro w hSw;(try dsimp only at hSw);go_simp);(try with_reducible rfl))
      try simp only [Act.put]
      refine dW (rs:=[0,7]) (by kernel_rfl) b_54 ?_;refine fL.cons rfl (fun K hK=>?_) ?_
      ·go_simp
       refine hK.out _ _ (bD HSV.out b_9) (fun hHeld=>?_);clear hK K
       try simp only [Act.put,List.setIfInBounds_toArray,List.set_cons_zero,List.set_cons_succ]
       refine dW (rs:=[5,7]) (by kernel_rfl) b_54 ?_;refine fL.cons rfl (fun K hK=>?_) ?_
       ·(refine eM (o:=⟨some 109,_,_,_,_,_⟩) b_55 (.tmp 104) (.tmp 108) 41 b_55 WZ 66 i0 (.agg #[.int .i64 0,.int .i64 0,.int .i64 0,.string ⟨#[]⟩,.string ⟨#[]⟩,.slice none 0 0]) 6 80 Tryz.underlying41 hi0 hz0 hz1 hz2 rfl hsz6 _ 0 [] b_55 _ b_14 b_6 _ kk _ b_55 (HP.out _ b_6) HPL.out (cY _ HO1.out) hp63 hpb ?_;intro v1 w1a o1 g1 q1 z1;have O1:=uZ o1;have G1a:=uZ g1;have X1:=uZ q1;have xa1:=uQ G1a.out xz1;have HXa1:=uZ (uK G1a.out HXZ.out);(try simp at z1);clear o1 g1 q1)
        refine hK.out _ _ (bD HSV.out b_9) (fun hHeld=>?_);clear hK K
        try simp only [Act.put,List.setIfInBounds_toArray,List.set_cons_zero,List.set_cons_succ]
        refine dW (rs:=[7]) (by kernel_rfl) b_54 ?_;refine fL.cons rfl (fun K hK=>?_) fL.nil;go_simp;exact f_1
       exact e_2
      refine fL.cons rfl (fun K hK=>?_) fL.nil;go_simp;refine hK.out _ _ (bD HSV.out b_9) (fun hHeld=>?_);clear hK K
      try simp only [Act.put,List.setIfInBounds_toArray,List.set_cons_zero,List.set_cons_succ]
      refine dW (rs:=[0]) (by kernel_rfl) b_54 ?_;exact e_2
     case rest =>
      obtain⟨rvF,bvF,hXF,hTF,hGF⟩:=hcut;obtain⟨⟨AF,nF,kF2,rfl⟩,BF,mF,lF,rfl⟩:=bK hTF;have HTF:=uZ hTF;have GF:=uZ (G5.out.trans hGF);have HGF:=uZ (GA.out.trans GF.out);obtain⟨x0,x1,-,-⟩:=aQ hXF;clear hXF hTF hGF xz1 fz0 fz1 e1 e2;obtain⟨⟨r0,b0,a0,a1,a2,a3,a4,a5,a6,a7,a8,a9,a10,a11⟩,hR⟩:=HB.out _ GF.out;obtain⟨q0,q1,z0,z1⟩:=cL hR;have HR:=uZ hR;clear hR;go_wp2_with fail;obtain⟨p0,p1⟩:=aK (v0:=(.slice AF nF kF2)) (v1:=(.slice BF mF lF)) q0 q1;refine bodyPost_ret (v:=.tuple #[.agg #[.slice AF nF kF2,.slice BF mF lF],.int .i64 0]) b_34 rfl ?_;exact dM HR.out b_53 HGF.out HTF.out
):p:=h
theorem c_1 {p:Prop} (h:p:=by
 have nX:zE7:=()
 exact s_21
):p:=h
theorem h_108 {p:Prop} (h:p:=by
 exact fun kv W (hW:aA w W) (h:SlI W kv PUT)=>iK t o.parent PUT rv bv kv W (hr.mono hW) (hv.mono hW) hf hrl h
):p:=h
theorem s_34 {p:Prop} (h:p:=by
 have kM:=h_177;rw[hu] at kM;unfold nJ at kM;dsimp only [Option.isSome_none] at kM;have hkl:=dK hf hrl o.parent;have kpu:=fun v W (h:SlI W v (aB t o.parent))=>mV (aB t o.parent) o.unit o.before v W h hkl
 rw[hpu] at kpu;have kst:=h_108;have hTl:(iD t o.parent PUT).brs.length<257:=by rw[aEt];omega
 have hins:=fun k hk h1 h2=>qG (gI o) (iD t o.parent PUT).brs k hk h1 h2
 obtain⟨i0,hi0,hz0,hz1,hz2⟩:=info_parts rD;unfold aUy;have hlz:=h_192;clear hkl hpu hlt hu hl ho;generalize iD t o.parent PUT=T at kst hTl hins ⊢;generalize aB t o.parent=KS at *;unfold gI at hins ⊢;exact nX.g
):p:=h
def zA1:=Unit
def zBs:=Unit
theorem zBs.g {p:Prop} (_:zBs) (h:p:=by
 have HR:=uZ hR;clear hR;dsimp only;have hbb:=h_200;exact c_1
):p:=h
theorem zA1.g {p:Prop} (_:zA1) (h:p:=by
 refine(KF.out _ GA.out).mono ?_;have nX:zBs:=()
 exact s_3
):p:=h
def zCe:=Unit
theorem zCe.g {p:Prop} (_:zCe) (h:p:=by
 unfold Opn.agg;unfold Opn.cells at HBX;dsimp only at HBX kF kL kC kM kpu kst hins hbz ⊢;have KF:=uZ kF;have KL:=uZ kL;have KC:=uZ kC;have KM:=uZ kM;have Kpu:=uZ kpu;have Kst:=uZ kst;have Hins:=uZ hins;have Hbz:=uZ hbz;clear kF kL kC kM kpu kst hins hbz;have GA:=h_8;have HB:=h_137;clear HBX;go_enter Tryz.func101,Tryz.ntmps101;have nX:zA1:=()
 exact s_1
):p:=h
def zEl:=Unit
def zGg:=Unit
theorem zGg.g {p:Prop} (_:zGg) (h:p:=by
 have nX:zCe:=()
 exact s_4
):p:=h
theorem zEl.g {p:Prop} (_:zEl) (h:p:=by
 have nX:zGg:=()
 exact s_34
):p:=h
theorem wL (t:Tr) (o:Opn) (rv bv:Value) (w:World) (hr:SlI w rv t.roots) (hv:bQ w bv t.brs) (hf:cF t.brs) (hrl:t.roots.length≤1000000) (ho:aE t.brs o.unit=none) (hl:mZ t o.parent o.level=0) (hbz:o.before=0) (hu:cM t.brs o.mark=none) (hlt:t.brs.length<256) {PUT:List Int} (hpu:mW o.unit o.before (aB t o.parent)++(if o.before=0 then[o.unit] else[])=PUT):Calls Tryz.prog 101 #[.agg #[rv,bv],o.agg] w (bU (aUy t o PUT,0) w):=by
 have nX:zEl:=()
 exact s_13
def zA2:=Unit
def zBt:=Unit
theorem zBt.g {p:Prop} (_:zBt) (h:p:=by
 have HR:=uZ hR;clear hR;dsimp only;have hbb:=h_206;go_wp2_with fail;refine(KH.out _ _ HV3.out).mono ?_;rintro e w4 ⟨rfl,rfl⟩;dsimp only;exact c_1
):p:=h
theorem zA2.g {p:Prop} (_:zA2) (h:p:=by
 refine(KF.out _ GA.out).mono ?_;have nX:zBt:=()
 exact s_3
):p:=h
def zCf:=Unit
theorem zCf.g {p:Prop} (_:zCf) (h:p:=by
 unfold Opn.agg;unfold Opn.cells at HBX;dsimp only at HBX kF kL kC kM kpu kst hins hbz kH ⊢;have KF:=uZ kF;have KL:=uZ kL;have KC:=uZ kC;have KM:=uZ kM;have Kpu:=uZ kpu;have Kst:=uZ kst;have Hins:=uZ hins;have Hbz:=uZ hbz;have KH:=uZ kH;clear kF kL kC kM kpu kst hins hbz kH;have GA:=h_8;have HB:=h_137;clear HBX;go_enter Tryz.func101,Tryz.ntmps101;have nX:zA2:=()
 exact s_1
):p:=h
def zEm:=Unit
def zGh:=Unit
theorem zGh.g {p:Prop} (_:zGh) (h:p:=by
 have nX:zCf:=()
 exact s_4
):p:=h
theorem zEm.g {p:Prop} (_:zEm) (h:p:=by
 have kH:=h_195;rw[decide_eq_true hbz.2] at kH;replace hbz:=hbz.1;have nX:zGh:=()
 exact s_34
):p:=h
theorem wM (t:Tr) (o:Opn) (rv bv:Value) (w:World) (hr:SlI w rv t.roots) (hv:bQ w bv t.brs) (hf:cF t.brs) (hrl:t.roots.length≤1000000) (ho:aE t.brs o.unit=none) (hl:mZ t o.parent o.level=0) (hbz:o.before≠0∧o.before∈aB t o.parent) (hu:cM t.brs o.mark=none) (hlt:t.brs.length<256) {PUT:List Int} (hpu:mW o.unit o.before (aB t o.parent)++(if o.before=0 then[o.unit] else[])=PUT):Calls Tryz.prog 101 #[.agg #[rv,bv],o.agg] w (bU (aUy t o PUT,0) w):=by
 have nX:zEm:=()
 exact s_13
theorem aKo (t:Tr) (o:Opn) (rv bv:Value) (w:World) (hr:SlI w rv t.roots) (hv:bQ w bv t.brs) (hf:cF t.brs) (hrl:t.roots.length≤1000000) (hT:aM t) :
  Calls Tryz.prog 101 #[.agg #[rv,bv],o.agg] w (bU (aXh t o) w):=by
 cases ho:aE t.brs o.unit with
 | some fb =>
  have:=tV t o rv bv w hr hv ho
  have hF:eK t o=6:=by
   unfold eK;rw[ho,if_pos (show(some fb).isSome=true from rfl)]
  unfold aXh;rw[hF,if_neg b_52];exact this
 | none =>
  exact aAq hT ho (fun R=>Calls Tryz.prog 101 #[.agg #[rv,bv],o.agg] w (bU R w))
   (fun n h1 h2=>zL t o rv bv w hr hv ho h1 h2)
   (fun h1 h2 h3=>zM t o rv bv w hr hv hf hrl ho h1 h2 h3)
   (fun h1 h2 x h3=>by
    rcases h2 with h2|h2
    ·exact tT t o rv bv w hr hv hf hrl ho h1 h2 h3
    ·exact tU t o rv bv w hr hv hf hrl ho h1 h2 h3)
   (fun h1 h2 h3 h4=>by
    rcases h2 with h2|h2
    ·exact tW t o rv bv w hr hv hf hrl ho h1 h2 h3 h4
    ·exact tX t o rv bv w hr hv hf hrl ho h1 h2 h3 h4)
   (fun h1 h2 h3 h4 PUT h5 _=>by
    rcases h2 with h2|h2
    ·exact wL t o rv bv w hr hv hf hrl ho h1 h2 h3 h4 h5
    ·exact wM t o rv bv w hr hv hf hrl ho h1 h2 h3 h4 h5)
@[go_sem ↓] theorem bDp (W:World) (X:Nat) (v0 v1 v2 v3 v4 v5 v6:Int) (v7 v8:ByteArray) (v9 v10 v11:Int) (h0:(W.cell? ⟨X,0,none⟩).isSome=true) (h1:(W.cell? ⟨X,1,none⟩).isSome=true) (h2:(W.cell? ⟨X,2,none⟩).isSome=true) (h3:(W.cell? ⟨X,3,none⟩).isSome=true) (h4:(W.cell? ⟨X,4,none⟩).isSome=true) (h5:(W.cell? ⟨X,5,none⟩).isSome=true) (h6:(W.cell? ⟨X,6,none⟩).isSome=true) (h7:(W.cell? ⟨X,7,none⟩).isSome=true) (h8:(W.cell? ⟨X,8,none⟩).isSome=true) (h9:(W.cell? ⟨X,9,none⟩).isSome=true) (h10:(W.cell? ⟨X,10,none⟩).isSome=true) (h11:(W.cell? ⟨X,11,none⟩).isSome=true) (z0:W.frozen? ⟨X,0,none⟩=false) (z1:W.frozen? ⟨X,1,none⟩=false) (z2:W.frozen? ⟨X,2,none⟩=false) (z3:W.frozen? ⟨X,3,none⟩=false) (z4:W.frozen? ⟨X,4,none⟩=false) (z5:W.frozen? ⟨X,5,none⟩=false) (z6:W.frozen? ⟨X,6,none⟩=false) (z7:W.frozen? ⟨X,7,none⟩=false) (z8:W.frozen? ⟨X,8,none⟩=false) (z9:W.frozen? ⟨X,9,none⟩=false) (z10:W.frozen? ⟨X,10,none⟩=false) (z11:W.frozen? ⟨X,11,none⟩=false) :
  Sem.run Tryz.prog (Instr.storeAt 26 (.pointer (some ⟨X,0,none⟩)) (.agg #[.int .i64 v0,.int .i64 v1,.int .i64 v2,.int .i64 v3,.int .i64 v4,.int .i64 v5,.int .i64 v6,.string v7,.string v8,.int .i64 v9,.int .i64 v10,.int .i64 v11])) W=.ok () ((((((((((((W.setCell ⟨X,0,none⟩ (.int .i64 v0)).setCell ⟨X,1,none⟩ (.int .i64 v1)).setCell ⟨X,2,none⟩ (.int .i64 v2)).setCell ⟨X,3,none⟩ (.int .i64 v3)).setCell ⟨X,4,none⟩ (.int .i64 v4)).setCell ⟨X,5,none⟩ (.int .i64 v5)).setCell ⟨X,6,none⟩ (.int .i64 v6)).setCell ⟨X,7,none⟩ (.string v7)).setCell ⟨X,8,none⟩ (.string v8)).setCell ⟨X,9,none⟩ (.int .i64 v9)).setCell ⟨X,10,none⟩ (.int .i64 v10)).setCell ⟨X,11,none⟩ (.int .i64 v11)):=by
 obtain⟨x0,h0⟩:=Option.isSome_iff_exists.1 h0;obtain⟨x1,h1⟩:=Option.isSome_iff_exists.1 h1;obtain⟨x2,h2⟩:=Option.isSome_iff_exists.1 h2;obtain⟨x3,h3⟩:=Option.isSome_iff_exists.1 h3;obtain⟨x4,h4⟩:=Option.isSome_iff_exists.1 h4;obtain⟨x5,h5⟩:=Option.isSome_iff_exists.1 h5;obtain⟨x6,h6⟩:=Option.isSome_iff_exists.1 h6;obtain⟨x7,h7⟩:=Option.isSome_iff_exists.1 h7;obtain⟨x8,h8⟩:=Option.isSome_iff_exists.1 h8;obtain⟨x9,h9⟩:=Option.isSome_iff_exists.1 h9;obtain⟨x10,h10⟩:=Option.isSome_iff_exists.1 h10;obtain⟨x11,h11⟩:=Option.isSome_iff_exists.1 h11;go_simp
end Go.Proofs.YtdochkemaiokfaaGreat

