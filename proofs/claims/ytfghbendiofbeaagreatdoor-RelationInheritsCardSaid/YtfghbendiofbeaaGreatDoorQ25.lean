/- Lemmas on what the functions of the program and of the library compute: F1, App3. The conditions stand at each. -/
import Derived.Test.YtfghbendiofbeaaGreatDoorQ8
import Derived.Test.YtfghbendiofbeaaGreatDoorQ2
import Derived.Test.YtfghbendiofbeaaGreatDoorQ19
import Derived.Deep.RegionLaw
import Derived.Deep.AppendLies
/- The bounds on sizes of authorities and relations (the verifier's Few), walked: where they say yes, the lists are short. No condition. -/
namespace Go.Proofs.YtfghbendiofbeaaGreatDoor
open Go.RowKit

/-- A call that answers yes or no; where it says yes, P holds. -/
def YesIf (P : Prop) (w : World) (e : Ending) (w' : World) : Prop := ∃ q : Bool, e = .returned (.bool q) ∧ (q = true → P) ∧ Grew w w'
theorem YesIf.no {P : Prop} {w w' : World} (hg : Grew w w') : YesIf P w (.returned (.bool false)) w' := ⟨false, rfl, fun h => (Bool.false_ne_true h).elim, hg⟩
theorem YesIf.yes {P : Prop} {w w' : World} (h : P) (hg : Grew w w') : YesIf P w (.returned (.bool true)) w' := ⟨true, rfl, fun _ => h, hg⟩
set_option maxHeartbeats 4000000 in
theorem fewOf_any (a : Auth) (nv xv : Value) (w : World) (hn : SlN w nv a.names) (hx : SlI w xv a.next) :
    Calls Tryz.prog 79 #[.agg #[.int .i64 a.id, .int .i64 a.kind, .int .i64 a.fr, .int .i64 a.un, nv, xv]] w (YesIf (a.names.length ≤ 17 ∧ a.next.length ≤ 17) w) := by
  obtain ⟨A, c, rfl, hlc, hc, hr⟩ := hn.open_
  obtain ⟨A', c', rfl, hlc', hc', -⟩ := hx.open_
  unfold maxLen at hc hc'
  have HR := Lib.hid hr
  clear hr hn hx
  go_enter Tryz.func79, Tryz.ntmps79
  go_wp2
  go_loop [3] (fun i => ∃ k : Nat, k ≤ a.names.length ∧ i = .int .i64 k) (fun i => a.names.length - (intOf i).toNat)
  case atStart => exact ⟨0, by omega, rfl⟩
  case round =>
    obtain ⟨k, hk, rfl⟩ := hrel
    by_cases hlt : k < a.names.length
    · have hltz : (k : Int) < (a.names.length : Int) := by omega
      have h0z : (0 : Int) ≤ (k : Int) := by omega
      obtain ⟨b, off, rfl, hb, hcell⟩ := HR.out (by omega)
      have hcl := (hcell _ ((Grew.refl w).alloc (.cells #[.int .i64 a.id, .int .i64 a.kind, .int .i64 a.fr, .int .i64 a.un, .slice (some ⟨b, off, none⟩) a.names.length c, .slice A' a.next.length c'] 72)) k hlt).1
      generalize a.names[k].text = y at hcl
      clear hcell
      cases a1 : decide ((100 : Int) < (y.size : Int))
      · go_wp2
        go_round
        case rel => exact ⟨k + 1, by omega, by go_num⟩
        case measure => simp [intOf]; omega
      · go_wp2
        go_ret
        exact YesIf.no ((Grew.refl w).alloc _)
    · have hltz : ¬ (k : Int) < (a.names.length : Int) := by omega
      cases a1 : decide ((a.names.length : Int) ≤ 17) <;> cases a2 : decide ((a.next.length : Int) ≤ 17)
      all_goals go_wp2
      all_goals go_ret
      all_goals first | exact YesIf.no ((Grew.refl w).alloc _) | exact YesIf.yes ⟨by simp at a1 a2; omega, by simp at a1 a2; omega⟩ ((Grew.refl w).alloc _)
def FewA (l : List Auth) : Prop := l.length ≤ 65 ∧ ∀ i (h : i < l.length), l[i].names.length ≤ 17 ∧ l[i].next.length ≤ 17
theorem FewA.au {l : List Auth} (h : FewA l) : FewAu l := fun i hi => ⟨by have := (h.2 i hi).1; omega, by have := (h.2 i hi).2; omega⟩
set_option maxHeartbeats 4000000 in
theorem few23_any (l : List Auth) (v : Value) (w : World) (hv : SlAu w v l) : Calls Tryz.prog 39 #[v] w (YesIf (FewA l) w) := by
  obtain ⟨A, c, rfl, hlc, hc, hr⟩ := hv.open_
  unfold maxLen at hc
  have HR := Lib.hid hr
  have HD := Lib.hid (show FewA l ↔ l.length ≤ 65 ∧ ∀ i (h : i < l.length), l[i].names.length ≤ 17 ∧ l[i].next.length ≤ 17 from Iff.rfl)
  generalize FewA l = PP at HD ⊢
  clear hr hv
  go_enter Tryz.func39, Tryz.ntmps39
  go_wp2
  go_loopg [3] l.length (fun gg s wr => ∃ k : Nat, k ≤ l.length ∧ l.length - k ≤ gg ∧ s = .int .i64 k ∧ Aside (Grew w wr) ∧ Aside (∀ i (h : i < l.length), i < k → l[i].names.length ≤ 17 ∧ l[i].next.length ≤ 17))
  case atStart => exact ⟨0, by omega, by omega, rfl, (show Aside _ from Grew.refl _), (show Aside _ from fun i h h2 => by omega)⟩
  case round =>
    obtain ⟨k, hk, hgk, rfl, BW, M⟩ := hrel
    by_cases hlt : k < l.length
    · have hltz : (k : Int) < (l.length : Int) := by omega
      have h0z : (0 : Int) ≤ (k : Int) := by omega
      obtain ⟨b, off, rfl, hb, hcell⟩ := HR.out (by omega)
      obtain ⟨nv, xv, hn, hx, hcl⟩ := hcell k hlt
      obtain ⟨c0, c1, c2, c3, c4, c5⟩ := hcl wr BW.out
      have KO := Lib.hid (fewOf_any l[k] nv xv wr (hn.mono BW.out) (hx.mono BW.out))
      have HY : RowKit.Hid (l[k].names.length ≤ 17 ∧ l[k].next.length ≤ 17 → ∀ i (h : i < l.length), i < k + 1 → l[i].names.length ≤ 17 ∧ l[i].next.length ≤ 17) := fun h i hi h2 => by
        by_cases e : i = k
        · subst e; exact h
        · exact M.out i hi (by omega)
      generalize (l[k].names.length ≤ 17 ∧ l[k].next.length ≤ 17) = PK at KO HY
      generalize l[k] = y at c0 c1 c2 c3 KO
      obtain ⟨y0, y1, y2, y3, y4, y5⟩ := y
      dsimp only at c0 c1 c2 c3 KO
      clear hcell hcl hn hx
      go_wp2_with fail
      refine KO.out.mono ?_
      rintro e w1 ⟨q, rfl, hq, g1⟩
      have HQ := Lib.hid hq
      have HG := Lib.hid g1
      clear hq g1 c0 c1 c2 c3 c4 c5
      dsimp only
      cases q
      · go_wp2
        go_ret
        exact YesIf.no (BW.out.trans HG.out)
      · go_wp2
        go_roundg (l.length - (k + 1))
        case measure => omega
        case rel => exact ⟨k + 1, by omega, by omega, by go_num, (show Aside _ from BW.out.trans HG.out), (show Aside _ from HY.out (HQ.out (by first | rfl | trivial)))⟩
    · have hltz : ¬ (k : Int) < (l.length : Int) := by omega
      cases a1 : decide ((l.length : Int) ≤ 12) <;> cases a2 : ((l.length : Int) == 65)
      all_goals go_wp2
      all_goals go_ret
      all_goals first | exact YesIf.no BW.out | exact YesIf.yes (HD.out.2 ⟨by simp at a1 a2; omega, fun i h => M.out i h (by omega)⟩) BW.out
theorem few26_any (a : List Auth) (l : List Rel) (av lv : Value) (w : World) (ha : SlAu w av a) (hl : SlR w lv l) : Calls Tryz.prog 12 #[av, lv] w (YesIf (FewA a ∧ l.length ≤ 257) w) := by
  have KF := Lib.hid (few23_any a av w ha)
  obtain ⟨A, c, rfl, hlc, hc, -⟩ := hl.open_
  unfold maxLen at hc
  generalize FewA a = PP at KF ⊢
  clear ha hl
  go_enter Tryz.func12, Tryz.ntmps12
  go_wp2_with fail
  refine KF.out.mono ?_
  rintro e w1 ⟨q, rfl, hq, g1⟩
  have HQ := Lib.hid hq
  have HG := Lib.hid g1
  clear hq g1
  dsimp only
  cases q <;> cases a1 : decide ((l.length : Int) ≤ 24) <;> cases a2 : ((l.length : Int) == 257)
  all_goals go_wp2
  all_goals go_ret
  all_goals first | exact YesIf.no HG.out | exact YesIf.yes ⟨HQ.out (by first | rfl | trivial), by simp at a1 a2; omega⟩ HG.out
end Go.Proofs.YtfghbendiofbeaaGreatDoor

/- append of a slice, nil let in, to an empty list that was just made. No condition but the sizes that a slice can have. -/
namespace Go.Proofs.YtfghbendiofbeaaGreatDoor
open Go.RowKit

/-- The slice lies, if anywhere, in a block from n on that is there. -/
def Lies (n : Nat) (w : World) (v : Value) : Prop := ∀ k, v.ownBlock = some k → n ≤ k ∧ k < w.heap.size
theorem Lies.mono {n : Nat} {w w' : World} {v : Value} (h : Lies n w v) (hs : w.heap.size ≤ w'.heap.size) : Lies n w' v := fun k hk => ⟨(h k hk).1, Nat.lt_of_lt_of_le (h k hk).2 hs⟩
theorem append_lit {P : Program} (w : World) (t ty e : TypeId) (i : TypeInfo) (z : Value) (size bytes : Nat) (ht : P.underlying t = some (.slice e)) (hi : P.info? e = some i) (hz : i.zero = some z)
    (hsize : i.size = size) (hby : i.bytes = bytes) (hsz : 0 < size) (g : Nat) (u : Value) (m : Nat) (cs : List Value) (hu : Rd w size u cs) (hl : cs.length = m * size)
    (h63 : m ≤ maxLen) (hbytes : m * bytes ≤ 140737488355328) (base : Nat) (hb : base ≤ g) (hg : g < w.heap.size) :
    ∃ A n c w', (Builtin.append_ #[t, t] ty #[.slice (some ⟨g, 0, none⟩) 0 0, u]).run P w = .ok (.slice A n c) w' ∧ Rd w' size (.slice A n c) cs ∧ Grew w w' ∧ Lies base w' (.slice A n c) := by
  subst hsize
  subst hby
  obtain ⟨A, m', c, rfl, hl', hmc, hcm, hr⟩ := hu
  obtain rfl : m' = m := Nat.eq_of_mul_eq_mul_right hsz (hl'.symm.trans hl)
  rcases Nat.eq_zero_or_pos m' with h0 | h0
  · subst h0
    have hcs : cs = [] := List.eq_nil_of_length_eq_zero (by omega)
    subst hcs
    refine ⟨some ⟨g, 0, none⟩, 0, 0, w, ?_, ⟨_, 0, 0, rfl, by simp, Nat.le_refl _, Nat.zero_le _, fun h => absurd h (Nat.lt_irrefl _)⟩, Grew.refl w, fun k hk => by simp [Value.ownBlock] at hk; omega⟩
    cases A with
    | none => simp [Builtin.append_, run_underlying ht, sizeOf, typeInfo, hi, Builtin.lenOf, Builtin.firstCells, storeCells]
    | some ad => simp [Builtin.append_, run_underlying ht, sizeOf, typeInfo, hi, Builtin.lenOf, Builtin.firstCells, loadCells, loadCellsFrom, storeCells]
  · obtain ⟨b, off, rfl, hbl, hcell⟩ := hr h0
    unfold maxLen at h63
    have hrun := run_append_grow (P := P) w t ty e i z ht hi hz ⟨g, 0, none⟩ 0 0 [] (by simp) (fun j v hj => by simp at hj) ⟨b, off, none⟩ m' c cs hl (fun j v hj => by rw [add_lit]; exact hcell j v hj) (by omega) (by omega) (growslice_fits (by omega) (by simpa using hbytes))
    refine ⟨_, _, _, _, hrun, ?_, ((Grew.refl w).drew).alloc _, fun k hk => by simp [Value.ownBlock] at hk; subst hk; exact ⟨by omega, by simp⟩⟩
    have hge := grownCap_ge w (0 + m') 0 e
    have hle := grownCap_le_maxLen w (0 + m') 0 e (by unfold maxLen; omega)
    refine ⟨_, _, _, rfl, by rw [hl]; simp, hge, hle, fun _ => ⟨w.heap.size, 0, rfl, by simp, fun j x hj => ?_⟩⟩
    have hlast := heap_alloc_last w.drew (.cells (([] : List Value).toArray ++ cs.toArray ++ Builtin.zeroCells z.cells (grownCap w (0 + m') 0 e - (0 + m'))) e)
    have hcl := cell_of_row _ _ (0 + j) _ _ _ hlast
    have hjl := (List.getElem?_eq_some_iff.1 hj).1
    refine hcl.trans ?_
    rw [Nat.zero_add]
    simp [Array.getElem?_append, hjl] 
    exact List.getElem?_eq_some_iff.1 hj |>.2
/-- The same, as a step of a region that draws. -/
theorem stepE {P : Program} {ops : Array Oper} {o : Oper} {a : Act} {K : Act → World → Prop} {Q : Exit → Act → World → Prop} {E : Prop} (hgd : o.guard = none) (s x : Operand) (t : TypeId)
    (ho : o.op = .call { callee := .builtin .append, args := #[s, x], argTypes := #[t, t] })
    (e : TypeId) (i : TypeInfo) (z : Value) (size bytes : Nat) (ht : P.underlying t = some (.slice e)) (hi : P.info? e = some i) (hz : i.zero = some z)
    (hsize : i.size = size) (hby : i.bytes = bytes) (hsz : 0 < size) (g : Nat) (hs : a.eval s = .slice (some ⟨g, 0, none⟩) 0 0) (wr : World)
    (u : Value) (m : Nat) (cs : List Value) (hx : a.eval x = u) (hu : Rd wr size u cs) (hl : cs.length = m * size) (h63 : m ≤ maxLen) (hbytes : m * bytes ≤ 140737488355328) (base : Nat) (hb : base ≤ g) (hg : g < wr.heap.size)
    (h : ∀ A n c w', Rd w' size (.slice A n c) cs → Grew wr w' → Lies base w' (.slice A n c) → K (a.put o.dst (.slice A n c)) w') : if Region.wanted o (yielded ops a.tmps) = true then Oper.wp P o a wr K Q else E := by
  have hw : Region.wanted o (yielded ops a.tmps) = true := by simp [Region.wanted, hgd]
  rw [if_pos hw]
  obtain ⟨A, n, c, w', hrun, h1, h2, h3⟩ := append_lit wr t o.type e i z size bytes ht hi hz hsize hby hsz g u m cs hu hl h63 hbytes base hb hg
  unfold Oper.wp execOp
  simp only [ho, resolve, invoke, builtin, Sem.run_bind, Sem.run_pure, Result.andThen_ok, List.map_toArray, List.map_cons, List.map_nil, hs, hx, hrun]
  exact h A n c w' h1 h2 h3
theorem rd_grown {w w' : World} {row : Option Nat} {k : Nat} {v : Value} {cs : List Value} (h : Rd w k v cs) (hg : w.grownBy w' row) (hr : ∀ b, v.ownBlock = some b → row ≠ some b) : Rd w' k v cs := by
  obtain ⟨A, n, c, rfl, hl, hn, hc, h0⟩ := h
  refine ⟨A, n, c, rfl, hl, hn, hc, fun hp => ?_⟩
  obtain ⟨b, off, rfl, hb, hcell⟩ := h0 hp
  exact ⟨b, off, rfl, Nat.lt_of_lt_of_le hb hg.size, fun j u hu => hg.cell (hcell j u hu) (fun e => hr b rfl e.symm)⟩
end Go.Proofs.YtfghbendiofbeaaGreatDoor
