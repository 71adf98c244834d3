/- slices.DeleteFunc at numbers, on a row of the call's own, with a word on all other blocks. No condition but that the function that is handed over answers as p does. -/
import Derived.Test.YtfghbendiofbeaaGreatDoorQ5
import Derived.Test.YtfghbendiofbeaaGreatDoorQ10
namespace Go.Proofs.YtfghbendiofbeaaGreatDoor
open Go.RowKit

/-- All cells but those of one block are as they were. -/
def KeepOff (row : Option Nat) (w w' : World) : Prop := w.heap.size ≤ w'.heap.size ∧ ∀ p x, w.cell? p = some x → some p.block ≠ row → w'.cell? p = some x
theorem KeepOff.grew {row : Option Nat} {w w' : World} (h : Grew w w') : KeepOff row w w' := ⟨h.size, fun _ _ hp _ => keep_cell h hp⟩
theorem KeepOff.trans {row : Option Nat} {a b c : World} (h : KeepOff row a b) (k : KeepOff row b c) : KeepOff row a c := ⟨Nat.le_trans h.1 k.1, fun p x hp hn => k.2 p x (h.2 p x hp hn) hn⟩
theorem KeepOff.grown {row : Option Nat} {w w' : World} (h : w.grownBy w' row) : KeepOff row w w' := ⟨h.size, fun _ _ hp hn => h.cell hp hn⟩
theorem KeepOff.set (w : World) (p : Addr) (u : Value) : KeepOff (some p.block) w (w.setCell p u) := ⟨by simp, fun q x hq hn => by rw [World.cell?_setCell_other _ _ _ _ (fun e => hn (by rw [e]))]; exact hq⟩
theorem KeepOff.rd {row : Option Nat} {w w' : World} {k : Nat} {v : Value} {cs : List Value} (h : KeepOff row w w') (hr : Rd w k v cs) (hn : ∀ b, v.ownBlock = some b → row ≠ some b) : Rd w' k v cs := by
  obtain ⟨A, n, c, rfl, hl, hnc, hc, h0⟩ := hr
  refine ⟨A, n, c, rfl, hl, hnc, hc, fun hp => ?_⟩
  obtain ⟨b, off, rfl, hb, hcell⟩ := h0 hp
  exact ⟨b, off, rfl, Nat.lt_of_lt_of_le hb h.1, fun j u hu => h.2 _ _ (hcell j u hu) (fun e => hn b rfl e.symm)⟩
set_option maxHeartbeats 2000000 in
/-- slices.DeleteFunc at Int, on a row of the call's own. -/
theorem deleteFuncW (l : List Int) (p : Int → Bool) (gf : Nat) (lb : Array Value) (eg : ∀ args w, (callFunc gf args).run Tryz.prog w = .ok (.enter gf args) w) (base : Nat) (v : Value) (w : World) (hbase : base ≤ w.heap.size)
    (hown : w.ownsRow base 3 1 v l.length (l.flatMap oneI))
    (hp : ∀ W x, Below base w W → x ∈ l → Calls Tryz.prog gf (#[(.int .i64 x)] ++ lb) W fun e w' => e = .returned (.bool (p x)) ∧ Grew W w') :
    Calls Tryz.prog 33 #[v, .func (.func gf) #[] lb] w fun e w' => ∃ v', e = .returned v' ∧ w'.ownsRow base 3 1 v' (l.filter fun x => !p x).length ((l.filter fun x => !p x).flatMap oneI) ∧ Below base w w' ∧ KeepOff v.ownBlock w w' := by
  have hix := indexFuncI l p gf lb eg v w (Rd.of_own hown) (fun W x hW hx => hp W x (hW.below.mono hbase) hx)
  by_cases hany : l.any p = true
  case neg =>
    simp only [Bool.not_eq_true] at hany
    have hid : l.filter (fun x => !p x) = l := List.filter_eq_self.2 (fun x hx => by
      rw [List.any_eq_false] at hany
      simpa using hany x hx)
    have hm : idxP p l = -1 := idxP_miss p l (fun i hi => by
      rw [List.any_eq_false] at hany
      simpa using hany l[i] (List.getElem_mem hi))
    rw [hid]
    rw [hm] at hix
    have HX := Lib.hid hix
    have HO := Lib.hid hown
    generalize l.flatMap oneI = cs at HO ⊢
    clear hix hown hp hid hm hany
    go_enter Tryz.func33, Tryz.ntmps33
    go_wp2_with (first | (go_at_call 76; refine HX.out.mono ?_; rintro e w1 ⟨rfl, hg⟩))
    go_ret
    exact ⟨v, rfl, own_later HO.out hg, hg.below.mono hbase, KeepOff.grew hg⟩
  case pos =>
    obtain ⟨m, hm, hpm, hbef⟩ := idxP_find p l hany
    have he : idxP p l = (m : Int) := idxP_hit p l m hm hpm hbef
    rw [he] at hix
    obtain ⟨g, cap, hv, hbg, hglt, hcap⟩ := own_form hown (by omega)
    subst hv
    have hcm : cap ≤ maxLen := own_max hown
    unfold maxLen at hcm
    have DI0 : DelInv 1 oneI l (fun x => !p x) (l.flatMap oneI) m (m + 1) := DelInv.start (f := oneI) (fun _ => rfl) m hm (by simp [hpm]) (fun t ht h => by simp [hbef t ht h])
    have HX := Lib.hid hix
    have HO := Lib.hid hown
    have HP := Lib.hid hp
    have HD := Lib.hid DI0
    have hneg : ((m : Int) == -1) = false := beq_eq_false_iff_ne.2 (by omega)
    clear hix hown hp DI0 he hpm hbef hany
    go_enter Tryz.func33, Tryz.ntmps33
    go_wp2_with (first | (go_at_call 76; refine HX.out.mono ?_; rintro e w1 ⟨rfl, hg⟩))
    go_loopg [5, 6] l.length (fun gg s5 s6 wr => ∃ ii jj : Nat, ii < jj ∧ jj ≤ l.length ∧ l.length - jj ≤ gg ∧ s5 = .int .i64 ii ∧ s6 = .int .i64 jj ∧ Aside (Below base w wr ∧ KeepOff (some g) w wr) ∧ Aside (∃ ds, wr.ownsRow base 3 1 (.slice (some ⟨g, 0, none⟩) l.length cap) l.length ds ∧ DelInv 1 oneI l (fun x => !p x) ds ii jj))
    case atStart => exact ⟨m, m + 1, by omega, by omega, by omega, rfl, by go_num, (show Aside _ from ⟨hg.below.mono hbase, KeepOff.grew hg⟩), _, own_later HO.out hg, HD.out⟩
    case round =>
      obtain ⟨ii, jj, hij, hjl, hgk, rfl, rfl, BW, hds⟩ := hrel
      obtain ⟨ds, ho, DI0⟩ := hds.out
      have DI := Lib.hid DI0
      clear hds DI0
      by_cases hlt : jj < l.length
      · have hltz : (jj : Int) < (l.length : Int) := by omega
        have c0 : wr.cell? ⟨g, jj, none⟩ = some (.int .i64 l[jj]) := by
          have h1 := ho.cellAt (jj * 1 + 0) (by omega)
          have h2 := DelInv.at_ (f := oneI) DI.out (fun _ => rfl) hlt 0 (by omega)
          rw [h2] at h1
          simpa [oneI] using h1
        have hcall := HP.out wr l[jj] BW.out.1 (List.getElem_mem hlt)
        have HOr := Lib.hid ho
        have Hlt := Lib.hid hlt
        generalize hy : l[jj] = y at c0 hcall
        have B : Aside (l[jj] = y) := hy
        clear hy ho
        cases hq : p y with
        | true =>
          have Hq : Aside (p y = true) := hq
          rw [hq] at hcall
          go_wp2_with (go_at_fn gf; refine hcall.mono ?_; rintro e w' ⟨rfl, hb'⟩)
          go_roundg (l.length - (jj + 1))
          case measure => omega
          case rel => exact ⟨ii, jj + 1, by omega, by omega, by omega, rfl, by go_num, (show Aside _ from ⟨BW.out.1.trans (hb'.below.mono (Nat.le_trans hbase BW.out.1.size)), BW.out.2.trans (KeepOff.grew hb')⟩), (show Aside _ from ⟨ds, own_later HOr.out hb', DI.out.skip Hlt.out (by have h : l[jj]'Hlt.out = y := B.out; rw [h, Hq.out]; rfl)⟩)⟩
        | false =>
          have Hq : Aside (p y = false) := hq
          rw [hq] at hcall
          go_wp2_with fail
          refine hcall.mono ?_
          rintro e w' ⟨rfl, hb'⟩
          have ho' := own_later HOr.out hb'
          obtain ⟨u0, _, hu0⟩ := own_cell ho' ii (by omega)
          have hf0 := ho'.frozenAt ii
          have HO' := Lib.hid ho'
          clear ho'
          go_wp2
          obtain ⟨ds1, hD1, hG1, hL1, hA1, hB1⟩ := own_setCells (oneI y) (ii * 1) w' ds HO'.out
          go_roundg (l.length - (jj + 1))
          case measure => omega
          case rel =>
            have hyj : l[jj]'Hlt.out = y := B.out
            have hbw : Below base w w' := BW.out.1.trans (hb'.below.mono (Nat.le_trans hbase BW.out.1.size))
            refine ⟨ii + 1, jj + 1, by omega, by omega, by omega, by go_num, by go_num, (show Aside _ from ?_), (show Aside _ from ⟨ds1, ?_, ?_⟩)⟩
            · exact ⟨hbw.setCell (p := ⟨g, ii, none⟩) hbg _, (BW.out.2.trans (KeepOff.grew hb')).trans (KeepOff.set _ _ _)⟩
            · simpa [oneI, World.setCells] using hD1
            · exact DelInv.keep (f := oneI) DI.out (fun _ => rfl) Hlt.out (by rw [hyj, Hq.out]; rfl) hL1 (by rw [hyj]; exact hA1) (by rw [hyj]; exact hB1)
      · have hje : jj = l.length := by omega
        subst hje
        have hii : ¬ cap = ii := by omega
        have hgt : (ii : Int) ≤ (l.length : Int) := by omega
        obtain ⟨w2, ds2, hrun, ho2, hg2, ha2⟩ := run_clear_own (P := Tryz.prog) wr 43 3 0 (.int .i64 0) 1 Tryz.underlying43 Tryz.zeroValue3 rfl (by omega) (by simp [Value.cells, Value.oneCell']) ho ii (cap - ii) hij
        have hrun' : ∀ ty, (Builtin.clear_ #[43] ty #[.slice (some ⟨g, ii, none⟩) (l.length - ii) (cap - ii)]).run Tryz.prog wr = .ok (.tuple #[]) w2 := fun _ => by have h := hrun; rw [Nat.mul_one] at h; exact h
        have Ho2 := Lib.hid ho2
        have Ha2 := Lib.hid ha2
        clear ho2 ha2 hrun ho
        go_wp2
        go_ret
        obtain ⟨e1, e2⟩ := DelInv.done (f := oneI) DI.out (fun _ => rfl) Ha2.out
        have hc2 := own_cut Ho2.out ii (by omega)
        rw [e1] at hc2
        refine ⟨_, rfl, ?_, Below.grown BW.out.1 hg2 (Nat.le_trans hbase BW.out.1.size) (fun k hk => by cases hk; exact hbg), BW.out.2.trans (KeepOff.grown hg2)⟩
        rw [← e2]
        exact hc2

end Go.Proofs.YtfghbendiofbeaaGreatDoor
