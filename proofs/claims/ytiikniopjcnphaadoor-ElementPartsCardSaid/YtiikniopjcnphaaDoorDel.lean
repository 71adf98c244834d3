/- slices.DeleteFunc at strings and values, on a row of the call's own: what stays, in order. No condition but that the function that is handed over answers as p does. -/
import Derived.Test.YtiikniopjcnphaaDoorProg
import Derived.Test.YtiikniopjcnphaaDoorTypes
import Derived.Test.YtiikniopjcnphaaDoorIdx
namespace Go.Proofs.YtiikniopjcnphaaDoor
open Go.RowKit
theorem szinfoV : (Tryd.prog.info? 31).map (·.size) = some 4 := by kernel_rfl

set_option maxHeartbeats 2000000 in
/-- slices.DeleteFunc at Val, on a row of the call's own. -/
theorem deleteFuncV (l : List Val) (p : Val → Bool) (gf : Nat) (lb : Array Value) (eg : ∀ args w, (callFunc gf args).run Tryd.prog w = .ok (.enter gf args) w) (base : Nat) (v : Value) (w : World) (hbase : base ≤ w.heap.size)
    (hown : w.ownsRow base 31 4 v l.length (l.flatMap Val.cells))
    (hp : ∀ W x, Below base w W → x ∈ l → Calls Tryd.prog gf (#[x.agg] ++ lb) W fun e w' => e = .returned (.bool (p x)) ∧ Grew W w') :
    Calls Tryd.prog 58 #[v, .func (.func gf) #[] lb] w fun e w' => ∃ v', e = .returned v' ∧ w'.ownsRow base 31 4 v' (l.filter fun x => !p x).length ((l.filter fun x => !p x).flatMap Val.cells) ∧ Below base w w' := by
  have hix := indexFuncV l p gf lb eg v w (Rd.of_own hown) (fun W x hW hx => hp W x (hW.below.mono hbase) hx)
  by_cases hany : l.any p = true
  case neg =>
    simp only [Bool.not_eq_true] at hany
    have hid : l.filter (fun x => !p x) = l := List.filter_eq_self.2 (fun x hx => by
      rw [List.any_eq_false] at hany
      simpa using hany x hx)
    have hm : idxP p l = -1 := idxP_miss p l (fun i hi => by
      rw [List.any_eq_false] at hany
      simpa using hany l[i] (List.getElem_mem hi))
    rw [hid]
    rw [hm] at hix
    have HX := Lib.hid hix
    have HO := Lib.hid hown
    generalize l.flatMap Val.cells = cs at HO ⊢
    clear hix hown hp hid hm hany
    go_enter Tryd.func58, Tryd.ntmps58
    go_wp2_with (first | (go_at_call 56; refine HX.out.mono ?_; rintro e w1 ⟨rfl, hg⟩))
    go_ret
    exact ⟨v, rfl, own_later HO.out hg, hg.below.mono hbase⟩
  case pos =>
    obtain ⟨m, hm, hpm, hbef⟩ := idxP_find p l hany
    have he : idxP p l = (m : Int) := idxP_hit p l m hm hpm hbef
    rw [he] at hix
    obtain ⟨g, cap, hv, hbg, hglt, hcap⟩ := own_form hown (by omega)
    subst hv
    have hcm : cap ≤ maxLen := own_max hown
    unfold maxLen at hcm
    have DI0 : DelInv 4 Val.cells l (fun x => !p x) (l.flatMap Val.cells) m (m + 1) := DelInv.start (f := Val.cells) (fun _ => rfl) m hm (by simp [hpm]) (fun t ht h => by simp [hbef t ht h])
    have HX := Lib.hid hix
    have HO := Lib.hid hown
    have HP := Lib.hid hp
    have HD := Lib.hid DI0
    have hneg : ((m : Int) == -1) = false := beq_eq_false_iff_ne.2 (by omega)
    clear hix hown hp DI0 he hpm hbef hany
    go_enter Tryd.func58, Tryd.ntmps58
    go_wp2_with (first | (go_at_call 56; refine HX.out.mono ?_; rintro e w1 ⟨rfl, hg⟩))
    go_loopg [5, 6] l.length (fun gg s5 s6 wr => ∃ ii jj : Nat, ii < jj ∧ jj ≤ l.length ∧ l.length - jj ≤ gg ∧ s5 = .int .i64 ii ∧ s6 = .int .i64 jj ∧ Aside (Below base w wr) ∧ Aside (∃ ds, wr.ownsRow base 31 4 (.slice (some ⟨g, 0, none⟩) l.length cap) l.length ds ∧ DelInv 4 Val.cells l (fun x => !p x) ds ii jj))
    case atStart => exact ⟨m, m + 1, by omega, by omega, by omega, rfl, by go_num, hg.below.mono hbase, _, own_later HO.out hg, HD.out⟩
    case round =>
      obtain ⟨ii, jj, hij, hjl, hgk, rfl, rfl, BW, hds⟩ := hrel
      obtain ⟨ds, ho, DI0⟩ := hds.out
      have DI := Lib.hid DI0
      clear hds DI0
      by_cases hlt : jj < l.length
      · have hltz : (jj : Int) < (l.length : Int) := by omega
        have c0 : wr.cell? ⟨g, jj * 4, none⟩ = some (.int .i64 l[jj].unit) := by
          have h1 := ho.cellAt (jj * 4 + 0) (by omega)
          have h2 := DelInv.at_ (f := Val.cells) DI.out (fun _ => rfl) hlt 0 (by omega)
          rw [h2] at h1
          simpa [Val.cells] using h1
        have c1 : wr.cell? ⟨g, jj * 4 + 1, none⟩ = some (.int .i64 l[jj].elem) := by
          have h1 := ho.cellAt (jj * 4 + 1) (by omega)
          have h2 := DelInv.at_ (f := Val.cells) DI.out (fun _ => rfl) hlt 1 (by omega)
          rw [h2] at h1
          simpa [Val.cells] using h1
        have c2 : wr.cell? ⟨g, jj * 4 + 2, none⟩ = some (.string l[jj].lang) := by
          have h1 := ho.cellAt (jj * 4 + 2) (by omega)
          have h2 := DelInv.at_ (f := Val.cells) DI.out (fun _ => rfl) hlt 2 (by omega)
          rw [h2] at h1
          simpa [Val.cells] using h1
        have c3 : wr.cell? ⟨g, jj * 4 + 3, none⟩ = some (.string l[jj].text) := by
          have h1 := ho.cellAt (jj * 4 + 3) (by omega)
          have h2 := DelInv.at_ (f := Val.cells) DI.out (fun _ => rfl) hlt 3 (by omega)
          rw [h2] at h1
          simpa [Val.cells] using h1
        have hcall := HP.out (wr.alloc (.cells #[.int .i64 l[jj].unit, .int .i64 l[jj].elem, .string l[jj].lang, .string l[jj].text] 31)) l[jj] (BW.out.alloc (Nat.le_trans hbase BW.out.size) _) (List.getElem_mem hlt)
        have HOr := Lib.hid ho
        have Hlt := Lib.hid hlt
        generalize hy : l[jj] = y at c0 c1 c2 c3 hcall
        have B : Aside (l[jj] = y) := hy
        clear hy ho
        unfold Val.agg at hcall
        cases hq : p y with
        | true =>
          have Hq : Aside (p y = true) := hq
          rw [hq] at hcall
          go_wp2_with (go_at_fn gf; refine hcall.mono ?_; rintro e w' ⟨rfl, hb'⟩)
          go_roundg (l.length - (jj + 1))
          case measure => omega
          case rel => exact ⟨ii, jj + 1, by omega, by omega, by omega, rfl, by go_num, (show Aside _ from BW.out.trans ((((Grew.refl wr).alloc _).trans hb').below.mono (Nat.le_trans hbase BW.out.size))), (show Aside _ from ⟨ds, own_later HOr.out (((Grew.refl wr).alloc _).trans hb'), DI.out.skip Hlt.out (by have h : l[jj]'Hlt.out = y := B.out; rw [h, Hq.out]; rfl)⟩)⟩
        | false =>
          have Hq : Aside (p y = false) := hq
          rw [hq] at hcall
          go_wp2_with fail
          refine hcall.mono ?_
          rintro e w' ⟨rfl, hb'⟩
          have ho' := own_later HOr.out (((Grew.refl wr).alloc _).trans hb')
          have d0 : w'.cell? ⟨wr.heap.size, 0, none⟩ = some (.int .i64 y.unit) := (hb'.cell (p := ⟨wr.heap.size, 0, none⟩) (by simp)).trans (by simp)
          have d1 : w'.cell? ⟨wr.heap.size, 1, none⟩ = some (.int .i64 y.elem) := (hb'.cell (p := ⟨wr.heap.size, 1, none⟩) (by simp)).trans (by simp)
          have d2 : w'.cell? ⟨wr.heap.size, 2, none⟩ = some (.string y.lang) := (hb'.cell (p := ⟨wr.heap.size, 2, none⟩) (by simp)).trans (by simp)
          have d3 : w'.cell? ⟨wr.heap.size, 3, none⟩ = some (.string y.text) := (hb'.cell (p := ⟨wr.heap.size, 3, none⟩) (by simp)).trans (by simp)
          obtain ⟨u0, _, hu0⟩ := own_cell ho' (ii * 4 + 0) (by omega)
          have hf0 := ho'.frozenAt (ii * 4 + 0)
          obtain ⟨u1, _, hu1⟩ := own_cell ho' (ii * 4 + 1) (by omega)
          have hf1 := ho'.frozenAt (ii * 4 + 1)
          obtain ⟨u2, _, hu2⟩ := own_cell ho' (ii * 4 + 2) (by omega)
          have hf2 := ho'.frozenAt (ii * 4 + 2)
          obtain ⟨u3, _, hu3⟩ := own_cell ho' (ii * 4 + 3) (by omega)
          have hf3 := ho'.frozenAt (ii * 4 + 3)
          simp only [Nat.add_zero] at hu0 hf0
          have HO' := Lib.hid ho'
          clear ho'
          go_wp2
          obtain ⟨ds1, hD1, hG1, hL1, hA1, hB1⟩ := own_setCells (Val.cells y) (ii * 4) w' ds HO'.out
          go_roundg (l.length - (jj + 1))
          case measure => omega
          case rel =>
            have hyj : l[jj]'Hlt.out = y := B.out
            have hbw : Below base w w' := BW.out.trans ((((Grew.refl wr).alloc _).trans hb').below.mono (Nat.le_trans hbase BW.out.size))
            refine ⟨ii + 1, jj + 1, by omega, by omega, by omega, by go_num, by go_num, (show Aside _ from ?_), (show Aside _ from ⟨ds1, ?_, ?_⟩)⟩
            · exact hbw.setCell (p := ⟨g, ii * 4, none⟩) hbg _ |>.setCell (p := ⟨g, ii * 4 + 1, none⟩) hbg _ |>.setCell (p := ⟨g, ii * 4 + 2, none⟩) hbg _ |>.setCell (p := ⟨g, ii * 4 + 3, none⟩) hbg _
            · simpa [Val.cells, World.setCells, Nat.add_assoc] using hD1
            · exact DelInv.keep (f := Val.cells) DI.out (fun _ => rfl) Hlt.out (by rw [hyj, Hq.out]; rfl) hL1 (by rw [hyj]; exact hA1) (by rw [hyj]; exact hB1)
      · have hje : jj = l.length := by omega
        subst hje
        have hii : ¬ cap = ii := by omega
        have hgt : (ii : Int) ≤ (l.length : Int) := by omega
        obtain ⟨w2, ds2, hrun, ho2, hg2, ha2⟩ := run_clear_own (P := Tryd.prog) wr 32 31 0 (.agg #[.int .i64 0, .int .i64 0, .string ⟨#[]⟩, .string ⟨#[]⟩]) 4 Tryd.underlying32 Tryd.zeroValue31 rfl (by omega) (by simp [Value.cells, Value.oneCell']) ho ii (cap - ii) hij
        have hrun' : ∀ ty, (Builtin.clear_ #[32] ty #[.slice (some ⟨g, ii * 4, none⟩) (l.length - ii) (cap - ii)]).run Tryd.prog wr = .ok (.tuple #[]) w2 := fun _ => hrun
        have Ho2 := Lib.hid ho2
        have Ha2 := Lib.hid ha2
        clear ho2 ha2 hrun ho
        go_wp2
        go_ret
        obtain ⟨e1, e2⟩ := DelInv.done (f := Val.cells) DI.out (fun _ => rfl) Ha2.out
        have hc2 := own_cut Ho2.out ii (by omega)
        rw [e1] at hc2
        refine ⟨_, rfl, ?_, Below.grown BW.out hg2 (Nat.le_trans hbase BW.out.size) (fun k hk => by cases hk; exact hbg)⟩
        rw [← e2]
        exact hc2

set_option maxHeartbeats 2000000 in
/-- slices.DeleteFunc at ByteArray, on a row of the call's own. -/
theorem deleteFuncS (l : List ByteArray) (p : ByteArray → Bool) (gf : Nat) (lb : Array Value) (eg : ∀ args w, (callFunc gf args).run Tryd.prog w = .ok (.enter gf args) w) (base : Nat) (v : Value) (w : World) (hbase : base ≤ w.heap.size)
    (hown : w.ownsRow base 9 1 v l.length (l.flatMap oneS))
    (hp : ∀ W x, Below base w W → x ∈ l → Calls Tryd.prog gf (#[(.string x)] ++ lb) W fun e w' => e = .returned (.bool (p x)) ∧ Grew W w') :
    Calls Tryd.prog 29 #[v, .func (.func gf) #[] lb] w fun e w' => ∃ v', e = .returned v' ∧ w'.ownsRow base 9 1 v' (l.filter fun x => !p x).length ((l.filter fun x => !p x).flatMap oneS) ∧ Below base w w' := by
  have hix := indexFuncS l p gf lb eg v w (Rd.of_own hown) (fun W x hW hx => hp W x (hW.below.mono hbase) hx)
  by_cases hany : l.any p = true
  case neg =>
    simp only [Bool.not_eq_true] at hany
    have hid : l.filter (fun x => !p x) = l := List.filter_eq_self.2 (fun x hx => by
      rw [List.any_eq_false] at hany
      simpa using hany x hx)
    have hm : idxP p l = -1 := idxP_miss p l (fun i hi => by
      rw [List.any_eq_false] at hany
      simpa using hany l[i] (List.getElem_mem hi))
    rw [hid]
    rw [hm] at hix
    have HX := Lib.hid hix
    have HO := Lib.hid hown
    generalize l.flatMap oneS = cs at HO ⊢
    clear hix hown hp hid hm hany
    go_enter Tryd.func29, Tryd.ntmps29
    go_wp2_with (first | (go_at_call 53; refine HX.out.mono ?_; rintro e w1 ⟨rfl, hg⟩))
    go_ret
    exact ⟨v, rfl, own_later HO.out hg, hg.below.mono hbase⟩
  case pos =>
    obtain ⟨m, hm, hpm, hbef⟩ := idxP_find p l hany
    have he : idxP p l = (m : Int) := idxP_hit p l m hm hpm hbef
    rw [he] at hix
    obtain ⟨g, cap, hv, hbg, hglt, hcap⟩ := own_form hown (by omega)
    subst hv
    have hcm : cap ≤ maxLen := own_max hown
    unfold maxLen at hcm
    have DI0 : DelInv 1 oneS l (fun x => !p x) (l.flatMap oneS) m (m + 1) := DelInv.start (f := oneS) (fun _ => rfl) m hm (by simp [hpm]) (fun t ht h => by simp [hbef t ht h])
    have HX := Lib.hid hix
    have HO := Lib.hid hown
    have HP := Lib.hid hp
    have HD := Lib.hid DI0
    have hneg : ((m : Int) == -1) = false := beq_eq_false_iff_ne.2 (by omega)
    clear hix hown hp DI0 he hpm hbef hany
    go_enter Tryd.func29, Tryd.ntmps29
    go_wp2_with (first | (go_at_call 53; refine HX.out.mono ?_; rintro e w1 ⟨rfl, hg⟩))
    go_loopg [5, 6] l.length (fun gg s5 s6 wr => ∃ ii jj : Nat, ii < jj ∧ jj ≤ l.length ∧ l.length - jj ≤ gg ∧ s5 = .int .i64 ii ∧ s6 = .int .i64 jj ∧ Aside (Below base w wr) ∧ Aside (∃ ds, wr.ownsRow base 9 1 (.slice (some ⟨g, 0, none⟩) l.length cap) l.length ds ∧ DelInv 1 oneS l (fun x => !p x) ds ii jj))
    case atStart => exact ⟨m, m + 1, by omega, by omega, by omega, rfl, by go_num, hg.below.mono hbase, _, own_later HO.out hg, HD.out⟩
    case round =>
      obtain ⟨ii, jj, hij, hjl, hgk, rfl, rfl, BW, hds⟩ := hrel
      obtain ⟨ds, ho, DI0⟩ := hds.out
      have DI := Lib.hid DI0
      clear hds DI0
      by_cases hlt : jj < l.length
      · have hltz : (jj : Int) < (l.length : Int) := by omega
        have c0 : wr.cell? ⟨g, jj, none⟩ = some (.string l[jj]) := by
          have h1 := ho.cellAt (jj * 1 + 0) (by omega)
          have h2 := DelInv.at_ (f := oneS) DI.out (fun _ => rfl) hlt 0 (by omega)
          rw [h2] at h1
          simpa [oneS] using h1
        have hcall := HP.out wr l[jj] BW.out (List.getElem_mem hlt)
        have HOr := Lib.hid ho
        have Hlt := Lib.hid hlt
        generalize hy : l[jj] = y at c0 hcall
        have B : Aside (l[jj] = y) := hy
        clear hy ho
        cases hq : p y with
        | true =>
          have Hq : Aside (p y = true) := hq
          rw [hq] at hcall
          go_wp2_with (go_at_fn gf; refine hcall.mono ?_; rintro e w' ⟨rfl, hb'⟩)
          go_roundg (l.length - (jj + 1))
          case measure => omega
          case rel => exact ⟨ii, jj + 1, by omega, by omega, by omega, rfl, by go_num, (show Aside _ from BW.out.trans (hb'.below.mono (Nat.le_trans hbase BW.out.size))), (show Aside _ from ⟨ds, own_later HOr.out hb', DI.out.skip Hlt.out (by have h : l[jj]'Hlt.out = y := B.out; rw [h, Hq.out]; rfl)⟩)⟩
        | false =>
          have Hq : Aside (p y = false) := hq
          rw [hq] at hcall
          go_wp2_with fail
          refine hcall.mono ?_
          rintro e w' ⟨rfl, hb'⟩
          have ho' := own_later HOr.out hb'
          obtain ⟨u0, _, hu0⟩ := own_cell ho' ii (by omega)
          have hf0 := ho'.frozenAt ii
          have HO' := Lib.hid ho'
          clear ho'
          go_wp2
          obtain ⟨ds1, hD1, hG1, hL1, hA1, hB1⟩ := own_setCells (oneS y) (ii * 1) w' ds HO'.out
          go_roundg (l.length - (jj + 1))
          case measure => omega
          case rel =>
            have hyj : l[jj]'Hlt.out = y := B.out
            have hbw : Below base w w' := BW.out.trans (hb'.below.mono (Nat.le_trans hbase BW.out.size))
            refine ⟨ii + 1, jj + 1, by omega, by omega, by omega, by go_num, by go_num, (show Aside _ from ?_), (show Aside _ from ⟨ds1, ?_, ?_⟩)⟩
            · exact hbw.setCell (p := ⟨g, ii, none⟩) hbg _
            · simpa [oneS, World.setCells] using hD1
            · exact DelInv.keep (f := oneS) DI.out (fun _ => rfl) Hlt.out (by rw [hyj, Hq.out]; rfl) hL1 (by rw [hyj]; exact hA1) (by rw [hyj]; exact hB1)
      · have hje : jj = l.length := by omega
        subst hje
        have hii : ¬ cap = ii := by omega
        have hgt : (ii : Int) ≤ (l.length : Int) := by omega
        obtain ⟨w2, ds2, hrun, ho2, hg2, ha2⟩ := run_clear_own (P := Tryd.prog) wr 28 9 0 (.string ⟨#[]⟩) 1 Tryd.underlying28 Tryd.zeroValue9 rfl (by omega) (by simp [Value.cells, Value.oneCell']) ho ii (cap - ii) hij
        have hrun' : ∀ ty, (Builtin.clear_ #[28] ty #[.slice (some ⟨g, ii, none⟩) (l.length - ii) (cap - ii)]).run Tryd.prog wr = .ok (.tuple #[]) w2 := fun _ => by have h := hrun; rw [Nat.mul_one] at h; exact h
        have Ho2 := Lib.hid ho2
        have Ha2 := Lib.hid ha2
        clear ho2 ha2 hrun ho
        go_wp2
        go_ret
        obtain ⟨e1, e2⟩ := DelInv.done (f := oneS) DI.out (fun _ => rfl) Ha2.out
        have hc2 := own_cut Ho2.out ii (by omega)
        rw [e1] at hc2
        refine ⟨_, rfl, ?_, Below.grown BW.out hg2 (Nat.le_trans hbase BW.out.size) (fun k hk => by cases hk; exact hbg)⟩
        rw [← e2]
        exact hc2

end Go.Proofs.YtiikniopjcnphaaDoor
