/- The statement UndoAdmits: from the walk to the card. No condition. -/
import Derived.Test.YtdochkemaiokfaaGreatQ42
import Derived.Test.YtdochkemaiokfaaGreatQ43
import Derived.Test.YtdochkemaiokfaaGreatLUAdmitsQ
import Derived.Test.YtdochkemaiokfaaGreatQ1
set_option maxHeartbeats 16000000
set_option maxRecDepth 100000
set_option linter.all false
namespace Go.Proofs.YtdochkemaiokfaaGreat.undoAdmits
open Go.ChangeShapes Go.WideShapes Go.ChangeAt Go.RowKit
theorem contract (H:Type) (enc:TypeId × Value→H) (W:World) (base:Nat) (args:Array Value) (ds gs:List (DataW H)) (before:List MemPlace)
  (hval:∀(j:Nat) t v,Tryz.f3.params[j]? = some t→args[j]? = some v→Value.okWide Tryz.prog W .any base t v)
  (hW:DataW.Whole enc Tryz.prog Tryz.f3.params.toList Rows.undoAdmitsSpec.vars false W args.toList ds gs before) (hE:Env W) :
  Calls Tryz.prog 3 args W fun e W'=>∃ v,e=.returned v∧Rows.undoAdmitsSpec.post enc Tryz.prog Tryz.f3 false true false false W args v W':=by
 have hW':=hW;obtain⟨p,q,hA0,hV,rfl,hfz,hnd⟩:=hW;have hA:DataW.TrodAll enc Tryz.prog W 0 (fun _=>true) true Tryz.f3.params.toList args.toList ds p:=hA0;rw[Tryz.params3] at hA hval;obtain⟨v0,vs0,d0,ds0,p0,q0,hargs,rfl,rfl,h0,r0⟩:=trodAll_cons hA;obtain⟨v1,vs1,d1,ds1,p1,q1,rfl,rfl,rfl,h1,r1⟩:=trodAll_cons r0;obtain⟨rfl,rfl,rfl⟩:=trodAll_nil r1;obtain rfl:args=#[v0,v1]:=by cases args;simp_all
 obtain⟨x0,hx0,hk0⟩:=wV (hval 0 22 v0 b_54 b_54) h0;obtain⟨o1,rfl,hk1⟩:=aLn (hval 1 26 v1 b_54 b_54) h1;refine(aOj x0 o1 hk0 hk1 v0 W hE hx0 (fun W2 g=>aDx W2 (hE.mono g))).mono fun e W' ⟨he,hg⟩=>?_
 exact c_108
theorem laid_met (os:Os):laidMet Tryz.prog Rows.undoAdmitsRow.laid ((fY os).forCall (fun _ _=>0) ⟨#[],#[.slice none 0 0,.agg #[.int .i64 0,.int .i64 0,.int .i64 0,.int .i64 0,.int .i64 0,.int .i64 0,.int .i64 0,.string ⟨#[]⟩,.string ⟨#[]⟩,.int .i64 0,.int .i64 0,.int .i64 0]],[]⟩).memory :=
 laidMet_of_run' 8 (by kernel_rfl) (by kernel_rfl)
theorem reads (os:Os) {H:Type} (enc:TypeId × Value→H):∃ places,DataW.whole enc Tryz.prog ((fY os).forCall (fun _ _=>0) ⟨#[],#[.slice none 0 0,.agg #[.int .i64 0,.int .i64 0,.int .i64 0,.int .i64 0,.int .i64 0,.int .i64 0,.int .i64 0,.string ⟨#[]⟩,.string ⟨#[]⟩,.int .i64 0,.int .i64 0,.int .i64 0]],[]⟩).memory Tryz.f3.params.toList Rows.undoAdmitsSpec.vars false (#[.slice none 0 0,.agg #[.int .i64 0,.int .i64 0,.int .i64 0,.int .i64 0,.int .i64 0,.int .i64 0,.int .i64 0,.string ⟨#[]⟩,.string ⟨#[]⟩,.int .i64 0,.int .i64 0,.int .i64 0]]:Array Value).toList 8=some ([.nil,.agg [.lit (.int .i64 0),.lit (.int .i64 0),.lit (.int .i64 0),.lit (.int .i64 0),.lit (.int .i64 0),.lit (.int .i64 0),.lit (.int .i64 0),.lit (.string []),.lit (.string []),.agg [.lit (.int .i64 0),.lit (.int .i64 0),.lit (.int .i64 0)]]],[],places) :=
 ⟨[],by kernel_rfl⟩
theorem lifted (os:Os) (started:os.Started) (H:Type) (enc:TypeId × Value→H) (F:Stop.Interp) :
  ReturnsInHanded {} Tryz.checked os 3 .any ((OpenSpec.ofChange Rows.undoAdmitsSpec).preRow enc Tryz.prog Tryz.f3 Rows.undoAdmitsRow.domain false Rows.undoAdmitsRow.laid) (((OpenSpec.ofChange Rows.undoAdmitsSpec).at F).post enc Tryz.prog Tryz.f3 false true false false):=by
 obtain⟨places,hx⟩:=reads os enc
 refine returnsInHanded_of_row (C:=Tryz.checked) (s:=OpenSpec.ofChange Rows.undoAdmitsSpec) own started (by kernel_rfl) Tryz.func3
  (witness_row_at (enc:=enc) (C:=Tryz.checked) false (fY os) #[.slice none 0 0,.agg #[.int .i64 0,.int .i64 0,.int .i64 0,.int .i64 0,.int .i64 0,.int .i64 0,.int .i64 0,.string ⟨#[]⟩,.string ⟨#[]⟩,.int .i64 0,.int .i64 0,.int .i64 0]] rfl (by kernel_rfl) (by kernel_rfl) (by kernel_rfl)
   (OpenSpec.preRow_of_cond 8 hx (by kernel_rfl) (fun k hk=>by cases hk) (by kernel_rfl) (laid_met os))) ?_
 intro W base args ds gs before hval hW _ _ _ hlaid hsh _;exact contract H enc W base args ds gs before hval hW (aNb hlaid hsh)
theorem its_inPlace:Tryz.pinned.checked.prog.inPlace 3=Rows.undoAdmitsRow.inPlace:=by kernel_rfl
theorem its_unfollowed:Tryz.pinned.checked.prog.unfollowed 3=Rows.undoAdmitsRow.unfollowed:=by kernel_rfl
theorem its_recurses:Tryz.pinned.checked.prog.recurses 3=Rows.undoAdmitsRow.recurses:=by kernel_rfl
theorem its_named:Tryz.pinned.checked.prog.varsNamed 3=Rows.undoAdmitsRow.named:=by kernel_rfl
theorem closed:joinedFacts Tryz.pinned.checked.prog 3 Tryz.f3 (OpenSpec.ofChange Rows.undoAdmitsSpec).bare Rows.undoAdmitsRow=true:=by
 exact c_110
theorem said:Rows.UndoAdmitsSaid :=
 OpenClaim.holds_of_cond 3 Tryz.f3 rfl rfl rfl rfl rfl rfl rfl ⟨rfl,rfl,rfl,rfl,rfl⟩ rfl rfl rfl rfl rfl (by kernel_rfl) Tryz.func3 closed
  (of_decide_eq_true (by kernel_rfl)) (by unfold Func.isWrapper;first|(rw[if_pos (by decide +kernel)];kernel_rfl)|(rw[if_neg (by decide +kernel)];exact⟨rfl,rfl⟩))
  (fun os started H enc _ F=>by rw[OpenClaim.pre_eq_preRow];exact lifted os started H enc F)
end Go.Proofs.YtdochkemaiokfaaGreat.undoAdmits