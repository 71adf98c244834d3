/- The statement DescribeReads: from the walk to the card. No condition. -/
import Derived.Test.YtjaknioojpgkiaaGreatDoorQ49
import Derived.Test.YtjaknioojpgkiaaGreatDoorLDReadsQ
import Derived.Test.YtjaknioojpgkiaaGreatDoorQ50
namespace Go.Proofs.YtjaknioojpgkiaaGreatDoor.describeReads
open Go.ChangeShapes Go.WideShapes Go.ChangeAt Go.RowKit

set_option maxRecDepth 100000 in
theorem contract (H : Type) (enc : TypeId × Value → H) (W : World) (base : Nat) (args : Array Value) (ds gs : List (DataW H)) (before : List MemPlace)
    (hval : ∀ (j : Nat) t v, Tryz.f4.params[j]? = some t → args[j]? = some v → Value.okWide Tryz.prog W .any base t v)
    (hW : DataW.Whole enc Tryz.prog Tryz.f4.params.toList Rows.describeReadsSpec.vars false W args.toList ds gs before) (hE : Env W) :
    Calls Tryz.prog 4 args W fun e W' => ∃ v, e = .returned v ∧ Rows.describeReadsSpec.post enc Tryz.prog Tryz.f4 false true false false W args v W' := by
  have hW' := hW
  obtain ⟨p, q, hA0, hV, rfl, hfz, hnd⟩ := hW
  have hA : DataW.TrodAll enc Tryz.prog W 0 (fun _ => true) true Tryz.f4.params.toList args.toList ds p := hA0
  rw [Tryz.params4] at hA hval
  obtain ⟨v0, vs0, d0, ds0, p0, q0, hargs, rfl, rfl, h0, r0⟩ := trodAll_cons hA
  obtain ⟨v1, vs1, d1, ds1, p1, q1, rfl, rfl, rfl, h1, r1⟩ := trodAll_cons r0
  obtain ⟨v2, vs2, d2, ds2, p2, q2, rfl, rfl, rfl, h2, r2⟩ := trodAll_cons r1
  obtain ⟨v3, vs3, d3, ds3, p3, q3, rfl, rfl, rfl, h3, r3⟩ := trodAll_cons r2
  obtain ⟨v4, vs4, d4, ds4, p4, q4, rfl, rfl, rfl, h4, r4⟩ := trodAll_cons r3
  obtain ⟨v5, vs5, d5, ds5, p5, q5, rfl, rfl, rfl, h5, r5⟩ := trodAll_cons r4
  obtain ⟨v6, vs6, d6, ds6, p6, q6, rfl, rfl, rfl, h6, r6⟩ := trodAll_cons r5
  obtain ⟨rfl, rfl, rfl⟩ := trodAll_nil r6
  obtain rfl : args = #[v0, v1, v2, v3, v4, v5, v6] := by cases args; simp_all
  obtain ⟨rv0, bv0, rfl, ⟨rs0, br0⟩, hx0⟩ := open_tree (hval 0 25 v0 (by simp) (by simp)) h0
  obtain ⟨rv1, bv1, rfl, ⟨rs1, br1⟩, hx1⟩ := open_tree (hval 1 25 v1 (by simp) (by simp)) h1
  obtain ⟨x2, hx2⟩ := open_slS (hval 2 26 v2 (by simp) (by simp)) h2
  obtain ⟨x3, hx3⟩ := open_slV (hval 3 27 v3 (by simp) (by simp)) h3
  obtain ⟨x4, hx4⟩ := open_slV (hval 4 27 v4 (by simp) (by simp)) h4
  obtain ⟨x5, rfl, rfl, rfl, hw5⟩ := open_int Tryz.underlying3 (hval 5 3 v5 (by simp) (by simp)) h5
  obtain ⟨x6, rfl, rfl, rfl, -⟩ := Go.ChangeMaps.open_string Tryz.underlying9 (hval 6 9 v6 (by simp) (by simp)) h6
  refine (dreads_of ⟨rs0, br0⟩ ⟨rs1, br1⟩ x2 x3 x4 x5 x6 rv0 bv0 rv1 bv1 v2 v3 v4 W hE hx0.1 hx0.2 hx2 hx3 hx1.1 hx1.2 hx4 (fun W1 hg => awake29 W1 (hE.mono hg))).mono fun e W' ⟨he, hg⟩ => ?_
  subst he
  exact ⟨_, rfl, post_true laidOut rfl (by kernel_rfl) Tryz.underlying4 (by kernel_rfl) hW' rfl hg⟩

theorem laid_met (os : Os) : laidMet Tryz.prog Rows.describeReadsRow.laid ((worldLaid os).forCall (fun _ _ => 0) ⟨#[], #[.agg #[.slice none 0 0, .slice none 0 0], .agg #[.slice none 0 0, .slice none 0 0], .slice none 0 0, .slice none 0 0, .slice none 0 0, .int .i64 0, .string ⟨#[]⟩], []⟩).memory :=
  laidMet_of_run' 8 (by kernel_rfl) (by kernel_rfl)
theorem reads (os : Os) {H : Type} (enc : TypeId × Value → H) : ∃ places, DataW.whole enc Tryz.prog ((worldLaid os).forCall (fun _ _ => 0) ⟨#[], #[.agg #[.slice none 0 0, .slice none 0 0], .agg #[.slice none 0 0, .slice none 0 0], .slice none 0 0, .slice none 0 0, .slice none 0 0, .int .i64 0, .string ⟨#[]⟩], []⟩).memory Tryz.f4.params.toList Rows.describeReadsSpec.vars false (#[.agg #[.slice none 0 0, .slice none 0 0], .agg #[.slice none 0 0, .slice none 0 0], .slice none 0 0, .slice none 0 0, .slice none 0 0, .int .i64 0, .string ⟨#[]⟩] : Array Value).toList 8 = some ([.agg [.nil, .nil], .agg [.nil, .nil], .nil, .nil, .nil, .lit (.int .i64 0), .lit (.string [])], [], places) :=
  ⟨[], by kernel_rfl⟩

set_option maxRecDepth 100000 in
theorem lifted (os : Os) (started : os.Started) (H : Type) (enc : TypeId × Value → H) (F : Stop.Interp) :
    ReturnsInHanded {} Tryz.checked os 4 .any ((OpenSpec.ofChange Rows.describeReadsSpec).preRow enc Tryz.prog Tryz.f4 Rows.describeReadsRow.domain false Rows.describeReadsRow.laid) (((OpenSpec.ofChange Rows.describeReadsSpec).at F).post enc Tryz.prog Tryz.f4 false true false false) := by
  obtain ⟨places, hx⟩ := reads os enc
  refine returnsInHanded_of_row (C := Tryz.checked) (s := OpenSpec.ofChange Rows.describeReadsSpec) own started (by kernel_rfl) Tryz.func4
    (witness_row_at (enc := enc) (C := Tryz.checked) false (worldLaid os) #[.agg #[.slice none 0 0, .slice none 0 0], .agg #[.slice none 0 0, .slice none 0 0], .slice none 0 0, .slice none 0 0, .slice none 0 0, .int .i64 0, .string ⟨#[]⟩] rfl (by kernel_rfl) (by kernel_rfl) (by kernel_rfl)
      (OpenSpec.preRow_of_cond 8 hx (by kernel_rfl) (fun k hk => by cases hk) (by kernel_rfl) (laid_met os))) ?_
  intro W base args ds gs before hval hW _ _ _ hlaid hsh _
  exact contract H enc W base args ds gs before hval hW (env_of hlaid hsh)

theorem its_inPlace : Tryz.pinned.checked.prog.inPlace 4 = Rows.describeReadsRow.inPlace := by kernel_rfl
theorem its_unfollowed : Tryz.pinned.checked.prog.unfollowed 4 = Rows.describeReadsRow.unfollowed := by kernel_rfl
theorem its_recurses : Tryz.pinned.checked.prog.recurses 4 = Rows.describeReadsRow.recurses := by kernel_rfl
theorem its_named : Tryz.pinned.checked.prog.varsNamed 4 = Rows.describeReadsRow.named := by kernel_rfl
theorem closed : joinedFacts Tryz.pinned.checked.prog 4 Tryz.f4 (OpenSpec.ofChange Rows.describeReadsSpec).bare Rows.describeReadsRow = true := by
  unfold joinedFacts
  rw [its_inPlace, its_unfollowed, its_recurses, its_named]
  kernel_rfl
theorem said : Rows.DescribeReadsSaid :=
  OpenClaim.holds_of_cond 4 Tryz.f4 rfl rfl rfl rfl rfl rfl rfl ⟨rfl, rfl, rfl, rfl, rfl⟩ rfl rfl rfl rfl rfl (by kernel_rfl) Tryz.func4 closed
    (of_decide_eq_true (by kernel_rfl)) (by unfold Func.isWrapper; first | (rw [if_pos (by decide +kernel)]; kernel_rfl) | (rw [if_neg (by decide +kernel)]; exact ⟨rfl, rfl⟩))
    (fun os started H enc _ F => by rw [OpenClaim.pre_eq_preRow]; exact lifted os started H enc F)

theorem plain (f : FuncId) (fn : Func) (hf : Tryz.pinned.checked.prog.funcNamed "archivum/archivumlaw29.DescribeReads" = some f) (hfn : Tryz.pinned.checked.prog.funcs[f]? = some fn) :
    false = Tryz.pinned.checked.prog.looks [] ∧ ∀ (j : Nat) t, fn.params[j]? = some t → Tryz.pinned.checked.prog.wantsStandIn t = false := by
  obtain rfl : f = 4 := Option.some.inj ((show Tryz.prog.funcNamed "archivum/archivumlaw29.DescribeReads" = some 4 by kernel_rfl).symm.trans hf) |>.symm
  obtain rfl : fn = Tryz.f4 := (Option.some.inj (Tryz.func4.symm.trans hfn)).symm
  refine ⟨by kernel_rfl, fun j t ht => ?_⟩
  rw [Tryz.params4] at ht
  have hm := Array.mem_of_getElem? ht
  have hf : t = 25 ∨ t = 25 ∨ t = 26 ∨ t = 27 ∨ t = 27 ∨ t = 3 ∨ t = 9 := by simpa using hm
  have hc : t = 25 ∨ t = 26 ∨ t = 27 ∨ t = 3 ∨ t = 9 := by rcases hf with h | h | h | h | h | h | h <;> simp [h]
  rcases hc with rfl | rfl | rfl | rfl | rfl
  · exact (show Tryz.prog.wantsStandIn 25 = false by kernel_rfl)
  · exact (show Tryz.prog.wantsStandIn 26 = false by kernel_rfl)
  · exact (show Tryz.prog.wantsStandIn 27 = false by kernel_rfl)
  · exact (show Tryz.prog.wantsStandIn 3 = false by kernel_rfl)
  · exact (show Tryz.prog.wantsStandIn 9 = false by kernel_rfl)

/-- The card. -/
theorem card : Rows.DescribeReadsCardSaid :=
  Claim7.holds_tied_plain_at .later [] _ _ _ _ said (fun _ h => by cases h) (by kernel_rfl) (fun _ h => by cases h) describeReads_row_tie rfl ⟨rfl, rfl⟩ (by kernel_rfl) rfl plain (by kernel_rfl)
end Go.Proofs.YtjaknioojpgkiaaGreatDoor.describeReads
