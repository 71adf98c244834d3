/- Lemmas on what the functions of the program and of the library compute: Ap1. The conditions stand at each. -/
import Derived.Test.YtdochkemaiokfaaGreatQ13
import Derived.Test.YtdochkemaiokfaaGreatQ17
import Derived.Test.YtdochkemaiokfaaGreatT7Q
/- rearrange: the operations by their kinds: what the editor's method returns is what Apply returns; right. The conditions: the tree is right; the lists are short; the library's own variables hold what they must. -/
namespace Go.Proofs.YtdochkemaiokfaaGreat
open Go.RowKit
theorem MEnd.cast {w0:World} {E:Nat} {R R':Tr} {n n':Int} {e:Ending} {w':World} (h:MEnd w0 E R n e w') (hn:n=n') (hR:n=0→R=R'):MEnd w0 E R' n' e w':=by
 subst hn
 refine⟨h.1,h.2.1,fun h0=>?_⟩
 rw[← hR h0]
 exact h.2.2 h0
section
variable {w0:World} {E:Nat} {bv:Value} {t:Tr} {w:World} {o:Opn}
open Classical in
theorem applyR_on (hR:RightT t) (hf:formedO o=true) (h6:o.kind≠6):applyR t o=if faultO t o≠0 then(⟨[],[]⟩,faultO t o) else if RightT (newT t o) then(newT t o,0) else(⟨[],[]⟩,15):=by
 unfold applyR
 rw[if_neg]
 rintro (h|h|h)
 ·exact h hR
 ·rw[hf] at h
  cases h
 ·exact h6 h
theorem applyR_off (h:¬ RightT t∨formedO o=false∨o.kind=6):applyR t o=(⟨[],[]⟩,1):=by
 unfold applyR
 rw[if_pos h]
open Classical in
theorem applyR_is (hR:RightT t) (hf:formedO o=true) (h6:o.kind≠6) {n:Int} {R:Tr} (hn:n=if faultO t o≠0 then faultO t o else if RightT (newT t o) then 0 else 15) (hT:faultO t o=0→R=newT t o):n=(applyR t o).2∧(n=0→R=(applyR t o).1):=by
 rw[applyR_on hR hf h6]
 subst hn
 split
 ·rename_i h
  exact⟨rfl,fun h0=>absurd h0 h⟩
 ·rename_i h
  split
  ·exact⟨rfl,fun _=>hT (Classical.not_not.1 h)⟩
  ·exact⟨rfl,fun h0=>by cases h0⟩
theorem do1 (h:EdB w0.heap.size E bv t w) (hG:Grew w0 w) (hEnv:Env w0) (hR:RightT t) (hf:formedO o=true) (hk:o.kind=1):Calls Tryz.prog 92 #[.pointer (some ⟨E,0,none⟩),o.agg] w (MEnd w0 E (applyR t o).1 (applyR t o).2):=by
 have hx:=applyR_is (R:=createT t o) hR hf (by rw[hk];decide) (n:=resC t o) (by unfold resC;rw[faultO_1 hk,newT_1 hk]) (fun _=>(newT_1 hk).symm)
 exact(edCreate h hG hEnv (right_sound hR) o hf hk).mono fun e w' hm=>hm.cast hx.1 hx.2
theorem do2 (h:EdB w0.heap.size E bv t w) (hG:Grew w0 w) (hEnv:Env w0) (hR:RightT t) (hf:formedO o=true) (hk:o.kind=2):Calls Tryz.prog 93 #[.pointer (some ⟨E,0,none⟩),o.agg] w (MEnd w0 E (applyR t o).1 (applyR t o).2):=by
 cases hb:brFind t.brs o.unit with
 | none =>
  have h7:faultM t o=7:=by unfold faultM;rw[hb]
  have hx:=applyR_is (R:=t) hR hf (by rw[hk];decide) (n:=7) (by rw[faultO_2 hk,h7];simp) (fun h0=>by rw[faultO_2 hk,h7] at h0;cases h0)
  exact(edMoveNo h hG (tok_of (right_sound hR)) o hb t).mono fun e w' hm=>hm.cast hx.1 hx.2
 | some u =>
  have hx:=applyR_is (R:=moveT t o u) hR hf (by rw[hk];decide) (n:=resM t o u) (by unfold resM;rw[faultO_2 hk,newT_2 hk hb]) (fun _=>(newT_2 hk hb).symm)
  exact(edMove h hG hEnv hR (right_sound hR) o hk hb).mono fun e w' hm=>hm.cast hx.1 hx.2
theorem do3 (h:EdB w0.heap.size E bv t w) (hG:Grew w0 w) (hR:RightT t) (hf:formedO o=true) (hk:o.kind=3):Calls Tryz.prog 94 #[.pointer (some ⟨E,0,none⟩),o.agg] w (MEnd w0 E (applyR t o).1 (applyR t o).2):=by
 have h6:o.kind≠6:=by rw[hk];decide
 have hx:(if (brFind t.brs o.unit).isSome then(0:Int) else 7)=(applyR t o).2∧((if (brFind t.brs o.unit).isSome then(0:Int) else 7)=0→(setU t o.unit fun b=>{ b with title:=o.title })=(applyR t o).1):=by
  cases hb:brFind t.brs o.unit with
  | none =>
   have h7:faultL t o=7:=by unfold faultL;rw[hb]
   exact applyR_is hR hf h6 (by rw[faultO_34 (.inl hk),h7];simp) (fun h0=>by rw[faultO_34 (.inl hk),h7] at h0;cases h0)
  | some u =>
   have h0:faultL t o=0:=by
    unfold faultL
    rw[hb]
    simp[hk]
   have hS:=newT_sound (right_sound hR) hf h6 (by rw[faultO_34 (.inl hk),h0])
   rw[newT_3 hk hb] at hS
   have hT:=label_right hR o.unit (fun b=>{ b with title:=o.title }) (fun b=>⟨rfl,rfl⟩) hS
   refine applyR_is hR hf h6 ?_ (fun _=>(newT_3 hk hb).symm)
   show(0:Int)=_
   rw[faultO_34 (.inl hk),h0,newT_3 hk hb,if_neg (by simp),if_pos hT]
 exact(edRename h hG (tok_of (right_sound hR)) o).mono fun e w' hm=>hm.cast hx.1 hx.2
theorem do4 (h:EdB w0.heap.size E bv t w) (hG:Grew w0 w) (hR:RightT t) (hf:formedO o=true) (hk:o.kind=4):Calls Tryz.prog 95 #[.pointer (some ⟨E,0,none⟩),o.agg] w (MEnd w0 E (applyR t o).1 (applyR t o).2):=by
 have h6:o.kind≠6:=by rw[hk];decide
 have hx:(if (brFind t.brs o.unit).isSome then(if usedB t o.mark o.unit then(19:Int) else 0) else 7)=(applyR t o).2∧((if (brFind t.brs o.unit).isSome then(if usedB t o.mark o.unit then(19:Int) else 0) else 7)=0→(setU t o.unit fun b=>{ b with mark:=o.mark })=(applyR t o).1):=by
  cases hb:brFind t.brs o.unit with
  | none =>
   have h7:faultL t o=7:=by unfold faultL;rw[hb]
   exact applyR_is hR hf h6 (by rw[faultO_34 (.inr hk),h7];simp) (fun h0=>by rw[faultO_34 (.inr hk),h7] at h0;cases h0)
  | some u =>
   cases hu:usedB t o.mark o.unit with
   | true =>
    have h19:faultL t o=19:=by
     unfold faultL
     rw[hb]
     simp[hk,hu]
    exact applyR_is hR hf h6 (by rw[faultO_34 (.inr hk),h19];simp) (fun h0=>by rw[faultO_34 (.inr hk),h19] at h0;cases h0)
   | false =>
    have h0:faultL t o=0:=by
     unfold faultL
     rw[hb]
     simp[hu]
    have hS:=newT_sound (right_sound hR) hf h6 (by rw[faultO_34 (.inr hk),h0])
    rw[newT_4 hk hb] at hS
    have hT:=label_right hR o.unit (fun b=>{ b with mark:=o.mark }) (fun b=>⟨rfl,rfl⟩) hS
    refine applyR_is hR hf h6 ?_ (fun _=>(newT_4 hk hb).symm)
    show(0:Int)=_
    rw[faultO_34 (.inr hk),h0,newT_4 hk hb,if_neg (by simp),if_pos hT]
 exact(edMark h hG (tok_of (right_sound hR)) o).mono fun e w' hm=>hm.cast hx.1 hx.2
theorem do5 (h:EdB w0.heap.size E bv t w) (hG:Grew w0 w) (hR:RightT t) (hf:formedO o=true) (hk:o.kind=5):Calls Tryz.prog 96 #[.pointer (some ⟨E,0,none⟩),o.agg] w (MEnd w0 E (applyR t o).1 (applyR t o).2):=by
 have h6:o.kind≠6:=by rw[hk];decide
 have hx:faultR t o=(applyR t o).2:=by
  refine(applyR_is (R:=newT t o) hR hf h6 ?_ fun _=>rfl).1
  rw[faultO_5 hk]
  split
  ·rfl
  ·rename_i h0
   have h00:faultR t o=0:=Classical.not_not.1 h0
   obtain⟨u,hb⟩:=find_there (by rw[faultO_5 hk];exact h00) (by rw[hk];decide)
   have hT:RightT (newT t o):=by
    rw[newT_5 hk hb]
    refine remove_right hR (find_in hb).1 (find_in hb).2 ?_
    unfold faultR at h00
    rw[hb] at h00
    by_cases hk0:u.kids=[]
    ·exact hk0
    ·simp[hk0] at h00
   rw[if_pos hT]
   exact h00
 refine(edRemove h hG (tok_of (right_sound hR)) o (newT t o) fun u hb=>(newT_5 hk hb).symm).mono fun e w' hm=>hm.cast hx fun h0=>?_
 have:=(applyR_is (R:=newT t o) (n:=(applyR t o).2) hR hf h6 (by
  rw[applyR_on hR hf h6]
  split
  ·rfl
  ·split<;>rfl) fun _=>rfl).2 (by rw[← hx];exact h0)
 exact this
end
end Go.Proofs.YtdochkemaiokfaaGreat