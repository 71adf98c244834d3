/- The statement UndoProvenance: from the walk to the card. No condition. -/
import Derived.Test.YtdochkemaiokfaaGreatQ39
import Derived.Test.YtdochkemaiokfaaGreatQ40
import Derived.Test.YtdochkemaiokfaaGreatLUProvQ
namespace Go.Proofs.YtdochkemaiokfaaGreat.undoProvenance
open Go.ChangeShapes Go.WideShapes Go.ChangeAt Go.RowKit
set_option maxRecDepth 100000 in
theorem contract (H:Type) (enc:TypeId × Value→H) (W:World) (base:Nat) (args:Array Value) (ds gs:List (DataW H)) (before:List MemPlace)
  (hval:∀(j:Nat) t v,Tryz.f10.params[j]? = some t→args[j]? = some v→Value.okWide Tryz.prog W .any base t v)
  (hW:DataW.Whole enc Tryz.prog Tryz.f10.params.toList Rows.undoProvenanceSpec.vars false W args.toList ds gs before) (hE:Env W) :
  Calls Tryz.prog 10 args W fun e W'=>∃ v,e=.returned v∧Rows.undoProvenanceSpec.post enc Tryz.prog Tryz.f10 false true false false W args v W':=by
 have hW':=hW
 obtain⟨p,q,hA0,hV,rfl,hfz,hnd⟩:=hW
 have hA:DataW.TrodAll enc Tryz.prog W 0 (fun _=>true) true Tryz.f10.params.toList args.toList ds p:=hA0
 rw[Tryz.params10] at hA hval
 obtain⟨v0,vs0,d0,ds0,p0,q0,hargs,rfl,rfl,h0,r0⟩:=trodAll_cons hA
 obtain⟨v1,vs1,d1,ds1,p1,q1,rfl,rfl,rfl,h1,r1⟩:=trodAll_cons r0
 obtain⟨rfl,rfl,rfl⟩:=trodAll_nil r1
 obtain rfl:args=#[v0,v1]:=by cases args;simp_all
 obtain⟨x0,hx0,hk0⟩:=open_slO (hval 0 22 v0 (by simp) (by simp)) h0
 obtain⟨o1,rfl,hk1⟩:=open_opnW (hval 1 26 v1 (by simp) (by simp)) h1
 refine(prov_of x0 o1 hk0 hk1 v0 W hE hx0 (fun W2 g=>awake22 W2 (hE.mono g))).mono fun e W' ⟨he,hg⟩=>?_
 subst he
 exact⟨_,rfl,post_true laidOut rfl (by kernel_rfl) Tryz.underlying4 (by kernel_rfl) hW' rfl hg⟩
theorem laid_met (os:Os):laidMet Tryz.prog Rows.undoProvenanceRow.laid ((worldLaid os).forCall (fun _ _=>0) ⟨#[],#[.slice none 0 0,.agg #[.int .i64 0,.int .i64 0,.int .i64 0,.int .i64 0,.int .i64 0,.int .i64 0,.int .i64 0,.string ⟨#[]⟩,.string ⟨#[]⟩,.int .i64 0,.int .i64 0,.int .i64 0]],[]⟩).memory :=
 laidMet_of_run' 8 (by kernel_rfl) (by kernel_rfl)
theorem reads (os:Os) {H:Type} (enc:TypeId × Value→H):∃ places,DataW.whole enc Tryz.prog ((worldLaid os).forCall (fun _ _=>0) ⟨#[],#[.slice none 0 0,.agg #[.int .i64 0,.int .i64 0,.int .i64 0,.int .i64 0,.int .i64 0,.int .i64 0,.int .i64 0,.string ⟨#[]⟩,.string ⟨#[]⟩,.int .i64 0,.int .i64 0,.int .i64 0]],[]⟩).memory Tryz.f10.params.toList Rows.undoProvenanceSpec.vars false (#[.slice none 0 0,.agg #[.int .i64 0,.int .i64 0,.int .i64 0,.int .i64 0,.int .i64 0,.int .i64 0,.int .i64 0,.string ⟨#[]⟩,.string ⟨#[]⟩,.int .i64 0,.int .i64 0,.int .i64 0]]:Array Value).toList 8=some ([.nil,.agg [.lit (.int .i64 0),.lit (.int .i64 0),.lit (.int .i64 0),.lit (.int .i64 0),.lit (.int .i64 0),.lit (.int .i64 0),.lit (.int .i64 0),.lit (.string []),.lit (.string []),.agg [.lit (.int .i64 0),.lit (.int .i64 0),.lit (.int .i64 0)]]],[],places) :=
 ⟨[],by kernel_rfl⟩
set_option maxRecDepth 100000 in
theorem lifted (os:Os) (started:os.Started) (H:Type) (enc:TypeId × Value→H) (F:Stop.Interp) :
  ReturnsInHanded {} Tryz.checked os 10 .any ((OpenSpec.ofChange Rows.undoProvenanceSpec).preRow enc Tryz.prog Tryz.f10 Rows.undoProvenanceRow.domain false Rows.undoProvenanceRow.laid) (((OpenSpec.ofChange Rows.undoProvenanceSpec).at F).post enc Tryz.prog Tryz.f10 false true false false):=by
 obtain⟨places,hx⟩:=reads os enc
 refine returnsInHanded_of_row (C:=Tryz.checked) (s:=OpenSpec.ofChange Rows.undoProvenanceSpec) own started (by kernel_rfl) Tryz.func10
  (witness_row_at (enc:=enc) (C:=Tryz.checked) false (worldLaid os) #[.slice none 0 0,.agg #[.int .i64 0,.int .i64 0,.int .i64 0,.int .i64 0,.int .i64 0,.int .i64 0,.int .i64 0,.string ⟨#[]⟩,.string ⟨#[]⟩,.int .i64 0,.int .i64 0,.int .i64 0]] rfl (by kernel_rfl) (by kernel_rfl) (by kernel_rfl)
   (OpenSpec.preRow_of_cond 8 hx (by kernel_rfl) (fun k hk=>by cases hk) (by kernel_rfl) (laid_met os))) ?_
 intro W base args ds gs before hval hW _ _ _ hlaid hsh _
 exact contract H enc W base args ds gs before hval hW (env_of hlaid hsh)
theorem its_inPlace:Tryz.pinned.checked.prog.inPlace 10=Rows.undoProvenanceRow.inPlace:=by kernel_rfl
theorem its_unfollowed:Tryz.pinned.checked.prog.unfollowed 10=Rows.undoProvenanceRow.unfollowed:=by kernel_rfl
theorem its_recurses:Tryz.pinned.checked.prog.recurses 10=Rows.undoProvenanceRow.recurses:=by kernel_rfl
theorem its_named:Tryz.pinned.checked.prog.varsNamed 10=Rows.undoProvenanceRow.named:=by kernel_rfl
theorem closed:joinedFacts Tryz.pinned.checked.prog 10 Tryz.f10 (OpenSpec.ofChange Rows.undoProvenanceSpec).bare Rows.undoProvenanceRow=true:=by
 unfold joinedFacts
 rw[its_inPlace,its_unfollowed,its_recurses,its_named]
 kernel_rfl
theorem said:Rows.UndoProvenanceSaid :=
 OpenClaim.holds_of_cond 10 Tryz.f10 rfl rfl rfl rfl rfl rfl rfl ⟨rfl,rfl,rfl,rfl,rfl⟩ rfl rfl rfl rfl rfl (by kernel_rfl) Tryz.func10 closed
  (of_decide_eq_true (by kernel_rfl)) (by unfold Func.isWrapper;first|(rw[if_pos (by decide +kernel)];kernel_rfl)|(rw[if_neg (by decide +kernel)];exact⟨rfl,rfl⟩))
  (fun os started H enc _ F=>by rw[OpenClaim.pre_eq_preRow];exact lifted os started H enc F)
end Go.Proofs.YtdochkemaiokfaaGreat.undoProvenance