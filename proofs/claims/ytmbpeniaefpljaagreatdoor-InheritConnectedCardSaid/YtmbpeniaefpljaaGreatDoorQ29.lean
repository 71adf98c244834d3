/- Lemmas on what the functions of the program and of the library compute: Del3. The conditions stand at each. -/
import Derived.Test.YtmbpeniaefpljaaGreatDoorQ1
import Derived.Test.YtmbpeniaefpljaaGreatDoorQ4
import Derived.Test.YtmbpeniaefpljaaGreatDoorQ22
/- slices.DeleteFunc at numbers, on a row of the call's own; all other blocks are as they were. No condition but that the function that is handed over answers as p does. -/
namespace Go.Proofs.YtmbpeniaefpljaaGreatDoor
open Go.RowKit

theorem grown_set (w : World) (p : Addr) (u : Value) : w.grownBy (w.setCell p u) (some p.block) := ⟨rfl, rfl, rfl, by simp [World.setCell], fun k _ hne => Below.heap_setCell _ _ _ _ (fun e => hne (by rw [e]))⟩
set_option maxHeartbeats 2000000 in
/-- slices.DeleteFunc at Int, on a row of the call's own. -/
theorem deleteFuncG (l : List Int) (p : Int → Bool) (gf : Nat) (lb : Array Value) (eg : ∀ args w, (callFunc gf args).run Tryz.prog w = .ok (.enter gf args) w) (base : Nat) (v : Value) (w : World) (hbase : base ≤ w.heap.size)
    (hown : w.ownsRow base 3 1 v l.length (l.flatMap oneI))
    (hp : ∀ W x, w.grownBy W v.ownBlock → x ∈ l → Calls Tryz.prog gf (#[(.int .i64 x)] ++ lb) W fun e w' => e = .returned (.bool (p x)) ∧ Grew W w') :
    Calls Tryz.prog 53 #[v, .func (.func gf) #[] lb] w fun e w' => ∃ v', e = .returned v' ∧ w'.ownsRow base 3 1 v' (l.filter fun x => !p x).length ((l.filter fun x => !p x).flatMap oneI) ∧ v'.ownBlock = v.ownBlock ∧ Below base w w' ∧ w.grownBy w' v.ownBlock := by
  have hix := indexFuncI l p gf lb eg v w (Rd.of_own hown) (fun W x hW hx => hp W x (grown_grew hW _) hx)
  by_cases hany : l.any p = true
  case neg =>
    simp only [Bool.not_eq_true] at hany
    have hid : l.filter (fun x => !p x) = l := List.filter_eq_self.2 (fun x hx => by
      rw [List.any_eq_false] at hany
      simpa using hany x hx)
    have hm : idxP p l = -1 := idxP_miss p l (fun i hi => by
      rw [List.any_eq_false] at hany
      simpa using hany l[i] (List.getElem_mem hi))
    rw [hid]
    rw [hm] at hix
    have HX := Lib.hid hix
    have HO := Lib.hid hown
    generalize l.flatMap oneI = cs at HO ⊢
    clear hix hown hp hid hm hany
    go_enter Tryz.func53, Tryz.ntmps53
    go_wp2_with (first | (go_at_call 66; refine HX.out.mono ?_; rintro e w1 ⟨rfl, hg⟩))
    go_ret
    exact ⟨v, rfl, own_later HO.out hg, rfl, hg.below.mono hbase, grown_grew hg _⟩
  case pos =>
    obtain ⟨m, hm, hpm, hbef⟩ := idxP_find p l hany
    have he : idxP p l = (m : Int) := idxP_hit p l m hm hpm hbef
    rw [he] at hix
    obtain ⟨g, cap, hv, hbg, hglt, hcap⟩ := own_form hown (by omega)
    subst hv
    have hcm : cap ≤ maxLen := own_max hown
    unfold maxLen at hcm
    have DI0 : DelInv 1 oneI l (fun x => !p x) (l.flatMap oneI) m (m + 1) := DelInv.start (f := oneI) (fun _ => rfl) m hm (by simp [hpm]) (fun t ht h => by simp [hbef t ht h])
    have HX := Lib.hid hix
    have HO := Lib.hid hown
    have HP := Lib.hid hp
    have HD := Lib.hid DI0
    have hneg : ((m : Int) == -1) = false := beq_eq_false_iff_ne.2 (by omega)
    clear hix hown hp DI0 he hpm hbef hany
    go_enter Tryz.func53, Tryz.ntmps53
    go_wp2_with (first | (go_at_call 66; refine HX.out.mono ?_; rintro e w1 ⟨rfl, hg⟩))
    go_loopg [5, 6] l.length (fun gg s5 s6 wr => ∃ ii jj : Nat, ii < jj ∧ jj ≤ l.length ∧ l.length - jj ≤ gg ∧ s5 = .int .i64 ii ∧ s6 = .int .i64 jj ∧ Aside (Below base w wr ∧ w.grownBy wr (some g)) ∧ Aside (∃ ds, wr.ownsRow base 3 1 (.slice (some ⟨g, 0, none⟩) l.length cap) l.length ds ∧ DelInv 1 oneI l (fun x => !p x) ds ii jj))
    case atStart => exact ⟨m, m + 1, by omega, by omega, by omega, rfl, by go_num, (show Aside _ from ⟨hg.below.mono hbase, grown_grew hg _⟩), _, own_later HO.out hg, HD.out⟩
    case round =>
      obtain ⟨ii, jj, hij, hjl, hgk, rfl, rfl, BW, hds⟩ := hrel
      obtain ⟨ds, ho, DI0⟩ := hds.out
      have DI := Lib.hid DI0
      clear hds DI0
      by_cases hlt : jj < l.length
      · have hltz : (jj : Int) < (l.length : Int) := by omega
        have c0 : wr.cell? ⟨g, jj, none⟩ = some (.int .i64 l[jj]) := by
          have h1 := ho.cellAt (jj * 1 + 0) (by omega)
          have h2 := DelInv.at_ (f := oneI) DI.out (fun _ => rfl) hlt 0 (by omega)
          rw [h2] at h1
          simpa [oneI] using h1
        have hcall := HP.out wr l[jj] BW.out.2 (List.getElem_mem hlt)
        have HOr := Lib.hid ho
        have Hlt := Lib.hid hlt
        generalize hy : l[jj] = y at c0 hcall
        have B : Aside (l[jj] = y) := hy
        clear hy ho
        cases hq : p y with
        | true =>
          have Hq : Aside (p y = true) := hq
          rw [hq] at hcall
          go_wp2_with (go_at_fn gf; refine hcall.mono ?_; rintro e w' ⟨rfl, hb'⟩)
          go_roundg (l.length - (jj + 1))
          case measure => omega
          case rel => exact ⟨ii, jj + 1, by omega, by omega, by omega, rfl, by go_num, (show Aside _ from ⟨BW.out.1.trans (hb'.below.mono (Nat.le_trans hbase BW.out.1.size)), BW.out.2.trans (grown_grew hb' _)⟩), (show Aside _ from ⟨ds, own_later HOr.out hb', DI.out.skip Hlt.out (by have h : l[jj]'Hlt.out = y := B.out; rw [h, Hq.out]; rfl)⟩)⟩
        | false =>
          have Hq : Aside (p y = false) := hq
          rw [hq] at hcall
          go_wp2_with fail
          refine hcall.mono ?_
          rintro e w' ⟨rfl, hb'⟩
          have ho' := own_later HOr.out hb'
          obtain ⟨u0, _, hu0⟩ := own_cell ho' ii (by omega)
          have hf0 := ho'.frozenAt ii
          have HO' := Lib.hid ho'
          clear ho'
          go_wp2
          obtain ⟨ds1, hD1, hG1, hL1, hA1, hB1⟩ := own_setCells (oneI y) (ii * 1) w' ds HO'.out
          go_roundg (l.length - (jj + 1))
          case measure => omega
          case rel =>
            have hyj : l[jj]'Hlt.out = y := B.out
            have hbw : Below base w w' := BW.out.1.trans (hb'.below.mono (Nat.le_trans hbase BW.out.1.size))
            refine ⟨ii + 1, jj + 1, by omega, by omega, by omega, by go_num, by go_num, (show Aside _ from ?_), (show Aside _ from ⟨ds1, ?_, ?_⟩)⟩
            · exact ⟨hbw.setCell (p := ⟨g, ii, none⟩) hbg _, (BW.out.2.trans (grown_grew hb' _)).trans (grown_set _ _ _)⟩
            · simpa [oneI, World.setCells] using hD1
            · exact DelInv.keep (f := oneI) DI.out (fun _ => rfl) Hlt.out (by rw [hyj, Hq.out]; rfl) hL1 (by rw [hyj]; exact hA1) (by rw [hyj]; exact hB1)
      · have hje : jj = l.length := by omega
        subst hje
        have hii : ¬ cap = ii := by omega
        have hgt : (ii : Int) ≤ (l.length : Int) := by omega
        obtain ⟨w2, ds2, hrun, ho2, hg2, ha2⟩ := run_clear_own (P := Tryz.prog) wr 22 3 0 (.int .i64 0) 1 Tryz.underlying22 Tryz.zeroValue3 rfl (by omega) (by simp [Value.cells, Value.oneCell']) ho ii (cap - ii) hij
        have hrun' : ∀ ty, (Builtin.clear_ #[22] ty #[.slice (some ⟨g, ii, none⟩) (l.length - ii) (cap - ii)]).run Tryz.prog wr = .ok (.tuple #[]) w2 := fun _ => by have h := hrun; rw [Nat.mul_one] at h; exact h
        have Ho2 := Lib.hid ho2
        have Ha2 := Lib.hid ha2
        clear ho2 ha2 hrun ho
        go_wp2
        go_ret
        obtain ⟨e1, e2⟩ := DelInv.done (f := oneI) DI.out (fun _ => rfl) Ha2.out
        have hc2 := own_cut Ho2.out ii (by omega)
        rw [e1] at hc2
        refine ⟨_, rfl, ?_, rfl, Below.grown BW.out.1 hg2 (Nat.le_trans hbase BW.out.1.size) (fun k hk => by cases hk; exact hbg), BW.out.2.trans (hg2)⟩
        rw [← e2]
        exact hc2

end Go.Proofs.YtmbpeniaefpljaaGreatDoor
