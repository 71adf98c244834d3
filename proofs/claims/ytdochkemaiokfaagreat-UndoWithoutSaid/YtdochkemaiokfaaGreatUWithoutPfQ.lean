/- The statement UndoWithout: from the walk to the card. No condition. -/
import Derived.Test.YtdochkemaiokfaaGreatQ39
import Derived.Test.YtdochkemaiokfaaGreatQ40
import Derived.Test.YtdochkemaiokfaaGreatLUWithoutQ
namespace Go.Proofs.YtdochkemaiokfaaGreat.undoWithout
open Go.ChangeShapes Go.WideShapes Go.ChangeAt Go.RowKit
set_option maxRecDepth 100000 in
theorem contract (H:Type) (enc:TypeId × Value→H) (W:World) (base:Nat) (args:Array Value) (ds gs:List (DataW H)) (before:List MemPlace)
  (hval:∀(j:Nat) t v,Tryz.f7.params[j]? = some t→args[j]? = some v→Value.okWide Tryz.prog W .any base t v)
  (hW:DataW.Whole enc Tryz.prog Tryz.f7.params.toList Rows.undoWithoutSpec.vars false W args.toList ds gs before) (hE:Env W) :
  Calls Tryz.prog 7 args W fun e W'=>∃ v,e=.returned v∧Rows.undoWithoutSpec.post enc Tryz.prog Tryz.f7 false true false false W args v W':=by
 have hW':=hW
 obtain⟨p,q,hA0,hV,rfl,hfz,hnd⟩:=hW
 have hA:DataW.TrodAll enc Tryz.prog W 0 (fun _=>true) true Tryz.f7.params.toList args.toList ds p:=hA0
 rw[Tryz.params7] at hA hval
 obtain⟨v0,vs0,d0,ds0,p0,q0,hargs,rfl,rfl,h0,r0⟩:=trodAll_cons hA
 obtain⟨v1,vs1,d1,ds1,p1,q1,rfl,rfl,rfl,h1,r1⟩:=trodAll_cons r0
 obtain⟨rfl,rfl,rfl⟩:=trodAll_nil r1
 obtain rfl:args=#[v0,v1]:=by cases args;simp_all
 obtain⟨x0,hx0,hk0⟩:=open_slO (hval 0 22 v0 (by simp) (by simp)) h0
 obtain⟨x1,rfl,rfl,rfl,hw1⟩:=open_int Tryz.underlying3 (hval 1 3 v1 (by simp) (by simp)) h1
 refine(without_of x0 hk0 v0 x1 hw1 W hE hx0 (fun W2 g=>awake22 W2 (hE.mono g))).mono fun e W' ⟨he,hg⟩=>?_
 subst he
 exact⟨_,rfl,post_true laidOut rfl (by kernel_rfl) Tryz.underlying4 (by kernel_rfl) hW' rfl hg⟩
theorem laid_met (os:Os):laidMet Tryz.prog Rows.undoWithoutRow.laid ((worldLaid os).forCall (fun _ _=>0) ⟨#[],#[.slice none 0 0,.int .i64 0],[]⟩).memory :=
 laidMet_of_run' 8 (by kernel_rfl) (by kernel_rfl)
theorem reads (os:Os) {H:Type} (enc:TypeId × Value→H):∃ places,DataW.whole enc Tryz.prog ((worldLaid os).forCall (fun _ _=>0) ⟨#[],#[.slice none 0 0,.int .i64 0],[]⟩).memory Tryz.f7.params.toList Rows.undoWithoutSpec.vars false (#[.slice none 0 0,.int .i64 0]:Array Value).toList 8=some ([.nil,.lit (.int .i64 0)],[],places) :=
 ⟨[],by kernel_rfl⟩
set_option maxRecDepth 100000 in
theorem lifted (os:Os) (started:os.Started) (H:Type) (enc:TypeId × Value→H) (F:Stop.Interp) :
  ReturnsInHanded {} Tryz.checked os 7 .any ((OpenSpec.ofChange Rows.undoWithoutSpec).preRow enc Tryz.prog Tryz.f7 Rows.undoWithoutRow.domain false Rows.undoWithoutRow.laid) (((OpenSpec.ofChange Rows.undoWithoutSpec).at F).post enc Tryz.prog Tryz.f7 false true false false):=by
 obtain⟨places,hx⟩:=reads os enc
 refine returnsInHanded_of_row (C:=Tryz.checked) (s:=OpenSpec.ofChange Rows.undoWithoutSpec) own started (by kernel_rfl) Tryz.func7
  (witness_row_at (enc:=enc) (C:=Tryz.checked) false (worldLaid os) #[.slice none 0 0,.int .i64 0] rfl (by kernel_rfl) (by kernel_rfl) (by kernel_rfl)
   (OpenSpec.preRow_of_cond 8 hx (by kernel_rfl) (fun k hk=>by cases hk) (by kernel_rfl) (laid_met os))) ?_
 intro W base args ds gs before hval hW _ _ _ hlaid hsh _
 exact contract H enc W base args ds gs before hval hW (env_of hlaid hsh)
theorem its_inPlace:Tryz.pinned.checked.prog.inPlace 7=Rows.undoWithoutRow.inPlace:=by kernel_rfl
theorem its_unfollowed:Tryz.pinned.checked.prog.unfollowed 7=Rows.undoWithoutRow.unfollowed:=by kernel_rfl
theorem its_recurses:Tryz.pinned.checked.prog.recurses 7=Rows.undoWithoutRow.recurses:=by kernel_rfl
theorem its_named:Tryz.pinned.checked.prog.varsNamed 7=Rows.undoWithoutRow.named:=by kernel_rfl
theorem closed:joinedFacts Tryz.pinned.checked.prog 7 Tryz.f7 (OpenSpec.ofChange Rows.undoWithoutSpec).bare Rows.undoWithoutRow=true:=by
 unfold joinedFacts
 rw[its_inPlace,its_unfollowed,its_recurses,its_named]
 kernel_rfl
theorem said:Rows.UndoWithoutSaid :=
 OpenClaim.holds_of_cond 7 Tryz.f7 rfl rfl rfl rfl rfl rfl rfl ⟨rfl,rfl,rfl,rfl,rfl⟩ rfl rfl rfl rfl rfl (by kernel_rfl) Tryz.func7 closed
  (of_decide_eq_true (by kernel_rfl)) (by unfold Func.isWrapper;first|(rw[if_pos (by decide +kernel)];kernel_rfl)|(rw[if_neg (by decide +kernel)];exact⟨rfl,rfl⟩))
  (fun os started H enc _ F=>by rw[OpenClaim.pre_eq_preRow];exact lifted os started H enc F)
end Go.Proofs.YtdochkemaiokfaaGreat.undoWithout