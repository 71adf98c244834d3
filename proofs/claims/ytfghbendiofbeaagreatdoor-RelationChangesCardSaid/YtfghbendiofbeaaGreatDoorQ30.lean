/- Lemmas on what the functions of the program and of the library compute: RD1, RD2, RD3, FrameR, OpenR. The conditions stand at each. -/
import Derived.Test.YtfghbendiofbeaaGreatDoorQ29
import Derived.Test.YtfghbendiofbeaaGreatDoorQ16
import Derived.Test.YtfghbendiofbeaaGreatDoorQ20
import Derived.Deep.RegionHeld3
import Derived.Test.YtfghbendiofbeaaGreatDoorQ22
import Derived.Test.YtfghbendiofbeaaGreatDoorCards
import Derived.Test.YtfghbendiofbeaaGreatDoorTie
import Derived.Test.YtfghbendiofbeaaGreatDoorQ1
import Derived.Test.YtfghbendiofbeaaGreatDoorQ4
import Derived.WalkKit
import Derived.ProofKit
import Derived.OpenShut
import Derived.Carry
import Derived.ChangeMaps5
import Derived.SliceStrings
import Derived.Deep.Slices
import Derived.Deep.DeepHandedRow
import Derived.Lib.LaidTab
import Derived.LaidSub
import Derived.Shelf.Vars
/- The reference's Add of a relation, walked. The condition: the list is short. -/
namespace Go.Proofs.YtfghbendiofbeaaGreatDoor
open Go.RowKit

def RetRs (r : List Rel × Int) (w : World) (e : Ending) (w' : World) : Prop := ∃ v, e = .returned (.tuple #[v, .int .i64 r.2]) ∧ SlR w' v r.1 ∧ Grew w w'
theorem place_at {l : List Rel} (hs : l.Pairwise ltR) (x : Rel) (j : Nat) (h : j < l.length) : orderR l[j] x < 0 ↔ j < placeR l x := by
  rw [orderR_lt]
  constructor
  · intro hl
    by_cases hp : j < placeR l x
    · exact hp
    · refine absurd hl (drop_place hs x _ ?_)
      rw [List.mem_iff_getElem]
      exact ⟨j - placeR l x, by rw [List.length_drop]; omega, by rw [List.getElem_drop]; congr 1; omega⟩
  · intro hp
    refine take_place l x _ ?_
    rw [List.mem_iff_getElem]
    exact ⟨j, by rw [List.length_take]; omega, List.getElem_take⟩
theorem meets_ref (x y : Rel) : meetsR x y = (sameR y x && (decide (y.fr < x.un) && decide (x.fr < y.un))) := by
  unfold meetsR sameR
  rw [Bool.eq_iff_iff]
  simp only [Bool.and_eq_true, beq_iff_eq, decide_eq_true_eq]
  constructor
  · rintro ⟨⟨h1, h2, h3⟩, h4, h5⟩; exact ⟨⟨h1.symm, h2.symm, h3.symm⟩, h5, h4⟩
  · rintro ⟨⟨h1, h2, h3⟩, h4, h5⟩; exact ⟨⟨h1.symm, h2.symm, h3.symm⟩, h5, h4⟩
theorem addR_ref (a : List Auth) (l : List Rel) (x : Rel) : addR a l x = if asksF a l ≠ 0 then ([], 1) else if relAlone a x ≠ 0 then ([], relAlone a x) else if l.any (meetsR x) = true then ([], 6) else if 256 ≤ l.length then ([], 8) else (insR l x, 0) := by
  unfold addR
  by_cases h0 : asksF a l = 0
  · simp [h0]
  · have h1 : asksF a l = 1 := by
      revert h0
      unfold asksF
      split <;> simp
    simp [h1]
theorem addR_done {w : World} {base : Nat} {v : Value} {p q : List Rel} {xu xr xa xf xn : Int} {m : Nat} (h : w.ownsRow base 27 5 v m ([] ++ p.flatMap Rel.cells ++ [.int .i64 xu, .int .i64 xr, .int .i64 xa, .int .i64 xf, .int .i64 xn] ++ q.flatMap Rel.cells)) : SlR w v (p ++ ⟨xu, xr, xa, xf, xn⟩ :: q) := by
  have e : ([] ++ p.flatMap Rel.cells ++ [.int .i64 xu, .int .i64 xr, .int .i64 xa, .int .i64 xf, .int .i64 xn] ++ q.flatMap Rel.cells) = (p ++ (⟨xu, xr, xa, xf, xn⟩ : Rel) :: q).flatMap Rel.cells := by simp [Rel.cells]
  rw [e] at h
  exact Rd.of_own h
theorem addR_done2 {w : World} {base : Nat} {v : Value} {p q : List Rel} {xu xr xa xf xn : Int} {m : Nat} (h : w.ownsRow base 27 5 v m ([] ++ p.flatMap Rel.cells ++ [.int .i64 xu, .int .i64 xr, .int .i64 xa, .int .i64 xf, .int .i64 xn] ++ q.flatMap Rel.cells)) : SlR w v (p ++ [⟨xu, xr, xa, xf, xn⟩] ++ q) := by
  have := addR_done h
  simpa using this
set_option maxHeartbeats 16000000 in
set_option maxRecDepth 100000 in
theorem refAdd (a : List Auth) (l : List Rel) (x : Rel) (av lv : Value) (w : World) (ha : SlAu w av a) (hl : SlR w lv l) (hll : l.length ≤ 1000000) :
    Calls Tryz.prog 20 #[av, lv, x.agg] w (RetRs (addR a l x) w) := by
  have kR := fun W (hW : Grew w W) => refRight26 a l av lv W (ha.mono hW) (hl.mono hW)
  have kA := fun W (hW : Grew w W) => refOwn26 a x av W (ha.mono hW)
  have HV := Lib.hid hl
  have hbox := BoxR.new w x 27
  rw [addR_ref]
  obtain ⟨A, c, rfl, hlc, hc, hr⟩ := hl.open_
  obtain ⟨A2, c2, rfl, -, -, -⟩ := ha.open_
  unfold maxLen at hc
  have HR := Lib.hid hr
  have HL := Lib.hid (fun y => refLess y x)
  have HSM := Lib.hid (fun y => refSame26 y x)
  have HM := Lib.hid (meets_ref x)
  have HIT : RowKit.Hid (∀ j (h : j < l.length), meetsR x l[j] = true → l.any (meetsR x) = true) := fun j h hm => List.any_eq_true.2 ⟨_, List.getElem_mem h, hm⟩
  have HMISS : RowKit.Hid ((∀ j (h : j < l.length), meetsR x l[j] = false) → l.any (meetsR x) = false) := fun h => List.any_eq_false.2 fun y hy => by
    obtain ⟨j, hj, rfl⟩ := List.mem_iff_getElem.1 hy
    simp [h j hj]
  have HPL0 : RowKit.Hid (asksF a l = 0 → ∀ j (h : j < l.length), orderR l[j] x < 0 ↔ j < placeR l x) := fun h0 j h => place_at (asks_right.1 h0).2.2.2.1 x j h
  have HPLE := Lib.hid (place_le l x)
  unfold insR
  generalize l.any (meetsR x) = M0 at HIT HMISS ⊢
  generalize relAlone a x = q1 at kA ⊢
  generalize asksF a l = q0 at kR HPL0 ⊢
  generalize placeR l x = P0 at HPL0 HPLE ⊢
  obtain ⟨k0, hk0, hx0, hx1, hx2⟩ := info_parts cinfoR
  obtain ⟨xu, xr, xa, xf, xn⟩ := x
  unfold Rel.cells at hbox
  have HB := Lib.hid hbox
  unfold Rel.agg at kA ⊢
  dsimp only at kA HB ⊢
  have KR := Lib.hid kR
  have KA := Lib.hid kA
  clear kR kA hr hl ha hbox
  by_cases h0 : q0 = 0
  case neg =>
    rw [if_pos h0]
    have KR' := Lib.hid (show ∀ W, Grew w W → _ from fun W hW => by have := KR.out W hW; rw [decide_eq_false h0] at this; exact this)
    clear h0 KR
    go_enter Tryz.func20, Tryz.ntmps20
    go_wp2_with fail
    refine (KR'.out _ ((Grew.refl w).alloc _)).mono ?_
    rintro e w1 ⟨rfl, g1⟩
    dsimp only
    go_wp2
    go_ret2
    exact ⟨_, rfl, SlR.nil _, ((Grew.refl w).alloc _).trans g1⟩
  subst h0
  have HPL := Lib.hid (HPL0.out rfl)
  have KR' := Lib.hid (show ∀ W, Grew w W → _ from fun W hW => by have := KR.out W hW; rw [decide_eq_true rfl] at this; exact this)
  clear KR HPL0
  simp only [ne_eq, not_true_eq_false, if_false]
  by_cases h1 : q1 = 0
  case neg =>
    rw [if_pos h1]
    have h1' : (q1 != 0) = true := by simpa using h1
    clear h1
    go_enter Tryz.func20, Tryz.ntmps20
    go_wp2_with fail
    refine (KR'.out _ ((Grew.refl w).alloc _)).mono ?_
    rintro e w1 ⟨rfl, g1⟩
    obtain ⟨b0, b1, b2, b3, b4⟩ := HB.out.mono g1
    have G1 := Lib.hid (((Grew.refl w).alloc _).trans g1)
    clear g1
    dsimp only at b0 b1 b2 b3 b4 ⊢
    go_wp2_with fail
    refine (KA.out _ G1.out).mono ?_
    rintro e w2 ⟨rfl, g2⟩
    have G2 := Lib.hid (G1.out.trans g2)
    clear g2 b0 b1 b2 b3 b4
    dsimp only
    go_wp2
    go_ret2
    exact ⟨_, rfl, SlR.nil _, G2.out⟩
  subst h1
  simp only [not_true_eq_false, if_false]
  generalize hq : (if M0 = true then (([] : List Rel), (6 : Int)) else if 256 ≤ l.length then ([], 8) else (l.take P0 ++ [(⟨xu, xr, xa, xf, xn⟩ : Rel)] ++ l.drop P0, 0)) = RES
  have HRES := Lib.hid hq
  clear hq
  go_enter Tryz.func20, Tryz.ntmps20
  go_wp2_with fail
  refine (KR'.out _ ((Grew.refl w).alloc _)).mono ?_
  rintro e w1 ⟨rfl, g1⟩
  have HB1 := Lib.hid (HB.out.mono g1)
  obtain ⟨b0, b1, b2, b3, b4⟩ := HB1.out
  have G1 := Lib.hid (((Grew.refl w).alloc _).trans g1)
  clear g1
  dsimp only at b0 b1 b2 b3 b4 ⊢
  go_wp2_with fail
  refine (KA.out _ G1.out).mono ?_
  rintro e w2 ⟨rfl, g2⟩
  have G2 := Lib.hid (G1.out.trans g2)
  have HB2 := Lib.hid (HB1.out.mono g2)
  clear g2 b0 b1 b2 b3 b4 HB1 KR' KA
  dsimp only
  go_wp2
  go_loopg [9, 10] l.length (fun gg s9 s10 wr => ∃ k : Nat, k ≤ l.length ∧ l.length - k ≤ gg ∧ s10 = .int .i64 k ∧ s9 = .int .i64 (min k P0 : Nat) ∧ Aside (Grew w2 wr) ∧ Aside (∀ j (h : j < l.length), j < k → meetsR ⟨xu, xr, xa, xf, xn⟩ l[j] = false))
  case atStart => exact ⟨0, by omega, by omega, rfl, by simp, (show Aside _ from Grew.refl _), (show Aside _ from fun j h h2 => absurd h2 (Nat.not_lt_zero _))⟩
  case round =>
    obtain ⟨k, hk, hgk, rfl, rfl, BW, M⟩ := hrel
    have GW := Lib.hid (G2.out.trans BW.out)
    have HBW := Lib.hid (HB2.out.mono BW.out)
    by_cases hlt : k < l.length
    · have hltz : (k : Int) < (l.length : Int) := by omega
      have h0z : (0 : Int) ≤ (k : Int) := by omega
      obtain ⟨b, off, rfl, hb, hcell⟩ := HR.out (by omega)
      obtain ⟨c0, c1, c2, c3, c4⟩ := hcell wr GW.out k hlt
      obtain ⟨b0, b1, b2, b3, b4⟩ := HBW.out
      have f0 := Gr.cell c0
      have f1 := Gr.cell c1
      have f2 := Gr.cell c2
      have f3 := Gr.cell c3
      have f4 := Gr.cell c4
      have e0 := Gr.cell b0
      have e1 := Gr.cell b1
      have e2 := Gr.cell b2
      have e3 := Gr.cell b3
      have e4 := Gr.cell b4
      have hmm := HM.out l[k]
      have hit := HIT.out k hlt
      have hord := HPL.out k hlt
      have kL := HL.out l[k]
      have kS := HSM.out l[k]
      have HN : RowKit.Hid (meetsR ⟨xu, xr, xa, xf, xn⟩ l[k] = false → ∀ j (h : j < l.length), j < k + 1 → meetsR ⟨xu, xr, xa, xf, xn⟩ l[j] = false) := fun h j hj h2 => by
        by_cases e : j = k
        · subst e; exact h
        · exact M.out j hj (by omega)
      clear hcell c0 c1 c2 c3 c4 b0 b1 b2 b3 b4
      generalize l[k] = y at f0 f1 f2 f3 f4 hmm hit hord kL kS HN
      obtain ⟨yu, yr, ya, yf, yn⟩ := y
      generalize meetsR ⟨xu, xr, xa, xf, xn⟩ ⟨yu, yr, ya, yf, yn⟩ = mt at hmm hit HN
      rw [← decide_eq_true_eq (p := orderR ⟨yu, yr, ya, yf, yn⟩ ⟨xu, xr, xa, xf, xn⟩ < 0)] at hord
      generalize decide (orderR ⟨yu, yr, ya, yf, yn⟩ ⟨xu, xr, xa, xf, xn⟩ < 0) = lb at hord kL
      generalize sameR ⟨yu, yr, ya, yf, yn⟩ ⟨xu, xr, xa, xf, xn⟩ = ss at hmm kS
      unfold Rel.agg at kL kS
      dsimp only at f0 f1 f2 f3 f4 e0 e1 e2 e3 e4 hmm kL kS
      have KS := Lib.hid kS
      have KL := Lib.hid kL
      have HMM := Lib.hid hmm
      have HI := Lib.hid hit
      have HO := Lib.hid hord
      clear kS kL hmm hit hord
      generalize hmv : (min k P0 : Nat) = mv
      have HMV := Lib.hid hmv
      clear hmv
      have hss : (ss = true ∧ yf < xn ∧ xf < yn) ∨ ss = false ∨ (ss = true ∧ ¬ yf < xn) ∨ (ss = true ∧ yf < xn ∧ ¬ xf < yn) := by cases ss <;> by_cases r : yf < xn <;> by_cases r2 : xf < yn <;> simp [r, r2]
      rcases hss with ⟨rfl, r, r2⟩ | hmiss
      · have hmt : mt = true := by rw [HMM.out]; simp [r, r2]
        subst hmt
        have hRes : RES = ([], 6) := by rw [← HRES.out, HI.out rfl, if_pos rfl]
        subst hRes
        clear HRES HI HIT HMISS HN HMM M
        go_wp2_with fail
        refine region_gr wr (by kernel_rfl) (by kernel_rfl) (Grew.refl _) ?_
        repeat (first | go_big_quiet_step ((go_at_call 47; exact Gr.calls _ (KS.out _))) | quiet_step ((go_at_call 47; exact Gr.calls _ (KS.out _))))
        refine wpQuiet_nil ?_
        intro _ hw'
        obtain ⟨wi, rfl⟩ := hw'
        have HWI := Lib.hid wi.g
        clear f0 f1 f2 f3 f4 e0 e1 e2 e3 e4
        go_wp2
        go_ret2
        exact ⟨_, rfl, SlR.nil _, GW.out.trans HWI.out⟩
      · have hmt : mt = false := by rw [HMM.out]; rcases hmiss with rfl | ⟨rfl, r⟩ | ⟨rfl, r, r2⟩ <;> simp <;> omega
        subst hmt
        have HNN := Lib.hid (HN.out rfl)
        clear HI HN HMM M
        have hsp : (ss = false) ∨ (ss = true ∧ decide (yf < xn) = false) ∨ (ss = true ∧ yf < xn ∧ decide (xf < yn) = false) := by simpa using hmiss
        clear hmiss
        rcases hsp with rfl | ⟨rfl, r⟩ | ⟨rfl, r, r2⟩
        all_goals
          go_wp2_with fail
          refine region_gr wr (by kernel_rfl) (by kernel_rfl) (Grew.refl _) ?_
          repeat (first | go_big_quiet_step ((go_at_call 47; exact Gr.calls _ (KS.out _))) | quiet_step ((go_at_call 47; exact Gr.calls _ (KS.out _))))
          refine wpQuiet_nil ?_
          intro _ hw'
          obtain ⟨wi, rfl⟩ := hw'
          have HWI := Lib.hid wi.g
          go_wp2_with fail
          refine region_gr wr (by kernel_rfl) (by kernel_rfl) HWI.out ?_
          repeat (first | go_big_quiet_step ((go_at_call 46; exact Gr.calls _ (KL.out _))) | quiet_step ((go_at_call 46; exact Gr.calls _ (KL.out _))))
          refine wpQuiet_nil ?_
          intro _ hw'
          obtain ⟨wj, rfl⟩ := hw'
          have HWJ := Lib.hid wj.g
          clear f0 f1 f2 f3 f4 e0 e1 e2 e3 e4
          cases lb
          · have hkp : ¬ k < P0 := fun h => by have := HO.out.2 h; cases this
            have Hmv2 := Lib.hid (show mv = min (k + 1) P0 by have := HMV.out; omega)
            clear HO hkp
            go_wp2
            go_roundg (l.length - (k + 1))
            case measure => omega
            case rel => exact ⟨k + 1, by omega, by omega, by go_num, by rw [← Hmv2.out], (show Aside _ from BW.out.trans HWJ.out), (show Aside _ from HNN.out)⟩
          · have hkp := HO.out.1 rfl
            have Hmv2 := Lib.hid (show (k + 1 : Nat) = min (k + 1) P0 by omega)
            clear HO hkp
            go_wp2
            go_roundg (l.length - (k + 1))
            case measure => omega
            case rel => exact ⟨k + 1, by omega, by omega, by go_num, by rw [← Hmv2.out]; go_num, (show Aside _ from BW.out.trans HWJ.out), (show Aside _ from HNN.out)⟩
    · have hltz : ¬ (k : Int) < (l.length : Int) := by omega
      obtain rfl : k = l.length := by omega
      have hM := HMISS.out (fun j h => M.out j h h)
      have hRes : RES = if 256 ≤ l.length then ([], 8) else (l.take P0 ++ [(⟨xu, xr, xa, xf, xn⟩ : Rel)] ++ l.drop P0, 0) := by rw [← HRES.out, hM, if_neg (by simp)]
      clear HIT HMISS M hM HRES
      by_cases h256 : 256 ≤ l.length
      · rw [if_pos h256] at hRes
        subst hRes
        have h256z : (256 : Int) ≤ (l.length : Int) := by omega
        clear h256
        go_wp2
        go_ret2
        exact ⟨_, rfl, SlR.nil _, GW.out⟩
      rw [if_neg h256] at hRes
      subst hRes
      have h256z : ¬ (256 : Int) ≤ (l.length : Int) := by omega
      have hmin : min l.length P0 = P0 := Nat.min_eq_right HPLE.out
      rw [hmin]
      have hk : P0 ≤ l.length := HPLE.out
      clear hmin hgk
      obtain ⟨a0, a1, a2, a3, a4⟩ := HBW.out
      have hsz5 : 0 < 5 := by omega
      have e1 := part_to Tryz.underlying23 hk0 A l.length c P0 hk hlc
      have e2 := part_from Tryz.underlying23 hk0 hx1 A l.length c P0 hk
      have HP : RowKit.Hid (∀ W, Grew wr W → Rd W 5 (.slice A P0 c) ((l.take P0).flatMap Rel.cells)) := fun W hW => by
        have h := preV_rd (Rd.mono HV.out (GW.out.trans hW)) hk
        rw [(flat_take (f := Rel.cells) (k := 5) (fun _ => rfl) l P0).1] at h
        exact h
      have HS : RowKit.Hid (∀ W, Grew wr W → Rd W 5 (sufV A l.length c P0 5) ((l.drop P0).flatMap Rel.cells)) := fun W hW => by
        have h := sufV_rd (Rd.mono HV.out (GW.out.trans hW)) hk
        rw [(flat_take (f := Rel.cells) (k := 5) (fun _ => rfl) l P0).2] at h
        exact h
      generalize sufV A l.length c P0 5 = V2 at e2 HS
      have hpl : ((l.take P0).flatMap Rel.cells).length = P0 * 5 := by rw [flatMap_len Rel.cells 5 (fun _ => rfl), List.length_take, Nat.min_eq_left hk]
      have hsl : ((l.drop P0).flatMap Rel.cells).length = (l.length - P0) * 5 := by rw [flatMap_len Rel.cells 5 (fun _ => rfl), List.length_drop]
      have hp63 : 0 + P0 ≤ maxLen := by unfold maxLen; omega
      have hpb : (0 + P0) * 40 ≤ 140737488355328 := by omega
      have hq63 : 0 + P0 + 1 ≤ maxLen := by unfold maxLen; omega
      have hqb : (0 + P0 + 1) * 40 ≤ 140737488355328 := by omega
      have hs63 : 0 + P0 + 1 + (l.length - P0) ≤ maxLen := by unfold maxLen; omega
      have hsb : (0 + P0 + 1 + (l.length - P0)) * 40 ≤ 140737488355328 := by omega
      have hone : ∀ u ∈ ([.int .i64 xu, .int .i64 xr, .int .i64 xa, .int .i64 xf, .int .i64 xn] : List Value), u.oneCell' = true := by simp [Value.oneCell']
      have HPL2 := Lib.hid hpl
      have HSL := Lib.hid hsl
      clear hpl hsl HPL HPLE
      have HBL := Lib.hid (World.block_lt_of_cell? wr _ a0)
      have hblt : w.heap.size < wr.heap.size := HBL.out
      go_wp2_with fail
      obtain ⟨WZ, hWZ⟩ : ∃ WZ, WZ = wr := ⟨_, rfl⟩
      have HWZ := Lib.hid hWZ
      subst hWZ
      go_region_held3 (fun W => W.cell? ⟨w.heap.size, 0, none⟩ = some (.int .i64 xu) ∧ W.cell? ⟨w.heap.size, 1, none⟩ = some (.int .i64 xr) ∧ W.cell? ⟨w.heap.size, 2, none⟩ = some (.int .i64 xa) ∧ W.cell? ⟨w.heap.size, 3, none⟩ = some (.int .i64 xf) ∧ W.cell? ⟨w.heap.size, 4, none⟩ = some (.int .i64 xn) ∧ Grew WZ W) (refine heldBox WZ _ _ _ _ _ _ _ a0 a1 a2 a3 a4 (by repeat (first | exact Grew.refl WZ | exact G3.out | exact G2.out | exact G1.out | refine Grew.drew ?_ | refine Grew.alloc ?_ _))) ((first | (refine stepZ (o := ⟨some 72, _, _, _, _, _⟩) (by rfl) (.tmp 68) (.tmp 71) 23 (by rfl) WZ 27 k0 (.agg #[.int .i64 0, .int .i64 0, .int .i64 0, .int .i64 0, .int .i64 0]) 5 40 Tryz.underlying23 hk0 hx0 hx1 hx2 rfl hsz5 _ 0 [] (by rfl) _ (by repeat (first | exact own_lit _ (by simp) (by simp) | refine World.ownsRow.alloc ?_ _)) (by repeat (first | exact Grew.refl _ | refine Grew.drew ?_ | refine Grew.drewN ?_ _ | refine Grew.alloc ?_ _)) _ P0 _ (by rfl) (HP.out _ (by repeat (first | exact Grew.refl _ | refine Grew.drew ?_ | refine Grew.drewN ?_ _ | refine Grew.alloc ?_ _))) HPL2.out (one_cellsR _) hp63 hpb ?_; intro v1 w1 o1 g1 q1 z1; have O1 := Lib.hid o1; have G1 := Lib.hid g1; have X1 := Lib.hid q1;  (try simp at z1); clear o1 g1 q1) | (refine stepZ (o := ⟨some 75, _, _, _, _, _⟩) (by rfl) (.tmp 72) (.tmp 74) 23 (by rfl) WZ 27 k0 (.agg #[.int .i64 0, .int .i64 0, .int .i64 0, .int .i64 0, .int .i64 0]) 5 40 Tryz.underlying23 hk0 hx0 hx1 hx2 rfl hsz5 _ (0 + P0) ([] ++ (l.take P0).flatMap Rel.cells) (by rfl) _ (by repeat (first | exact O1.out | refine World.ownsRow.alloc ?_ _)) (by repeat (first | exact G1.out | refine Grew.alloc ?_ _ | refine Grew.drew ?_)) _ 1 [.int .i64 xu, .int .i64 xr, .int .i64 xa, .int .i64 xf, .int .i64 xn] (by rfl) (by first | exact rd_lit _ rfl _ (by simp) | exact rd_block rfl (by decide) (by omega) (fun j u hu => by rcases j with _ | _ | _ | _ | _ | j <;> simp at hu <;> subst hu <;> exact X1.out _ _ (by simp) (by change some _ ≠ some _; simp))) rfl hone hq63 hqb ?_; intro v2 w2 o2 g2 q2 z2; have O2 := Lib.hid o2; have G2 := Lib.hid g2;  clear o2 g2 q2) | (refine stepZ (o := ⟨some 79, _, _, _, _, _⟩) (by rfl) (.tmp 75) (.tmp 78) 23 (by rfl) WZ 27 k0 (.agg #[.int .i64 0, .int .i64 0, .int .i64 0, .int .i64 0, .int .i64 0]) 5 40 Tryz.underlying23 hk0 hx0 hx1 hx2 rfl hsz5 _ (0 + P0 + 1) ([] ++ (l.take P0).flatMap Rel.cells ++ [.int .i64 xu, .int .i64 xr, .int .i64 xa, .int .i64 xf, .int .i64 xn]) (by rfl) _ O2.out G2.out _ (l.length - P0) _ (by rfl) (HS.out _ G2.out) HSL.out (one_cellsR _) hs63 hsb ?_; intro v3 w3 o3 g3 q3 z3; have O3 := Lib.hid o3; have G3 := Lib.hid g3;  clear o3 g3 q3)))
      all_goals
        go_wp2_with fail
        go_ret2
        first | exact ⟨_, rfl, addR_done O3.out, GW.out.trans G3.out⟩ | exact ⟨_, rfl, addR_done2 O3.out, GW.out.trans G3.out⟩
end Go.Proofs.YtfghbendiofbeaaGreatDoor

/- The reference's End of a relation, and its comparison of lists, walked. The condition: the list is short. -/
namespace Go.Proofs.YtfghbendiofbeaaGreatDoor
open Go.RowKit

theorem place_hit {l : List Rel} (hs : l.Pairwise ltR) {x : Rel} {k : Nat} (hk : k < l.length) (e : l[k] = x) : placeR l x = k := by
  have h1 : ¬ k < placeR l x := by
    rw [← place_at hs x k hk, e, (orderR_eq x x).2 ⟨rfl, rfl, rfl, rfl⟩]
    omega
  have h2 : ∀ j, j < k → j < placeR l x := fun j hj => by
    rw [← place_at hs x j (by omega), orderR_lt, ← e]
    exact List.pairwise_iff_getElem.1 hs j k (by omega) hk hj
  by_cases h3 : placeR l x < k
  · have := h2 _ h3; omega
  · omega
theorem end_hit {a : List Auth} {l : List Rel} {x : Rel} {day : Int} (h0 : asksF a l = 0) (k : Nat) (hk : k < l.length) (e : l[k] = x) : endR a l x day = if day ≤ x.fr ∨ x.un < day then ([], 2) else (l.set k (cutR x day), 0) := by
  unfold endR
  rw [if_neg (by simpa using h0), place_hit (asks_right.1 h0).2.2.2.1 hk e, if_neg (by rw [List.getElem?_eq_getElem hk, e]; simp)]
theorem end_miss {a : List Auth} {l : List Rel} {x : Rel} {day : Int} (h0 : asksF a l = 0) (h : ∀ j (h : j < l.length), l[j] ≠ x) : endR a l x day = ([], 7) := by
  unfold endR
  rw [if_neg (by simpa using h0), if_pos]
  intro hc
  obtain ⟨hj, e⟩ := List.getElem?_eq_some_iff.1 hc
  exact h _ hj e
theorem end_arg {a : List Auth} {l : List Rel} {x : Rel} {day : Int} (h0 : ¬ asksF a l = 0) : endR a l x day = ([], 1) := by
  have h1 : asksF a l = 1 := by
    revert h0
    unfold asksF
    split <;> simp
  unfold endR
  simp [h1]
set_option maxHeartbeats 16000000 in
set_option maxRecDepth 100000 in
theorem refEnd (a : List Auth) (l : List Rel) (x : Rel) (day : Int) (av lv : Value) (w : World) (ha : SlAu w av a) (hl : SlR w lv l) (hll : l.length ≤ 1000000) :
    Calls Tryz.prog 22 #[av, lv, x.agg, .int .i64 day] w (RetRs (endR a l x day) w) := by
  have kR := fun W (hW : Grew w W) => refRight26 a l av lv W (ha.mono hW) (hl.mono hW)
  have HV := Lib.hid hl
  have hbox := BoxR.new w x 27
  obtain ⟨A, c, rfl, hlc, hc, hr⟩ := hl.open_
  obtain ⟨A2, c2, rfl, -, -, -⟩ := ha.open_
  unfold maxLen at hc
  have HR := Lib.hid hr
  have HI := Lib.hid (@end_hit a l x day)
  have HS := Lib.hid (@end_miss a l x day)
  have HG := Lib.hid (@end_arg a l x day)
  generalize endR a l x day = RES at HI HS HG ⊢
  obtain ⟨k0, hk0, hx0, hx1, hx2⟩ := info_parts cinfoR
  generalize asksF a l = q0 at kR HI HS HG
  have HFC := Lib.hid (flat_cut x day l)
  obtain ⟨xu, xr, xa, xf, xn⟩ := x
  unfold Rel.cells at hbox
  have HB := Lib.hid hbox
  unfold Rel.agg
  dsimp only at HB HI ⊢
  have KR := Lib.hid kR
  clear kR hr hl ha hbox
  by_cases h0 : q0 = 0
  case neg =>
    have hRes := HG.out h0
    subst hRes
    have KR' := Lib.hid (show ∀ W, Grew w W → _ from fun W hW => by have := KR.out W hW; rw [decide_eq_false h0] at this; exact this)
    clear h0 KR HI HS HG
    go_enter Tryz.func22, Tryz.ntmps22
    go_wp2_with fail
    refine (KR'.out _ ((Grew.refl w).alloc _)).mono ?_
    rintro e w1 ⟨rfl, g1⟩
    dsimp only
    go_wp2
    go_ret2
    exact ⟨_, rfl, SlR.nil _, ((Grew.refl w).alloc _).trans g1⟩
  subst h0
  have KR' := Lib.hid (show ∀ W, Grew w W → _ from fun W hW => by have := KR.out W hW; rw [decide_eq_true rfl] at this; exact this)
  have HI2 := Lib.hid (HI.out rfl)
  have HS2 := Lib.hid (HS.out rfl)
  clear KR HI HS HG
  go_enter Tryz.func22, Tryz.ntmps22
  go_wp2_with fail
  refine (KR'.out _ ((Grew.refl w).alloc _)).mono ?_
  rintro e w1 ⟨rfl, g1⟩
  have HB1 := Lib.hid (HB.out.mono g1)
  have G1 := Lib.hid (((Grew.refl w).alloc _).trans g1)
  clear g1 KR'
  dsimp only
  go_wp2
  go_loopg [10] l.length (fun gg s10 wr => ∃ k : Nat, k ≤ l.length ∧ l.length - k ≤ gg ∧ s10 = .int .i64 k ∧ Aside (Grew w1 wr) ∧ Aside (∀ j (h : j < l.length), j < k → l[j] ≠ ⟨xu, xr, xa, xf, xn⟩))
  case atStart => exact ⟨0, by omega, by omega, rfl, (show Aside _ from Grew.refl _), (show Aside _ from fun j h h2 => absurd h2 (Nat.not_lt_zero _))⟩
  case round =>
    obtain ⟨k, hk, hgk, rfl, BW, M⟩ := hrel
    have GW := Lib.hid (G1.out.trans BW.out)
    have HBW := Lib.hid (HB1.out.mono BW.out)
    by_cases hlt : k < l.length
    case neg =>
      have hltz : ¬ (k : Int) < (l.length : Int) := by omega
      have hRes := HS2.out (fun j h => M.out j h (by omega))
      subst hRes
      clear HI2 HS2 M
      go_wp2
      go_ret2
      exact ⟨_, rfl, SlR.nil _, GW.out⟩
    have hltz : (k : Int) < (l.length : Int) := by omega
    have h0z : (0 : Int) ≤ (k : Int) := by omega
    obtain ⟨b, off, rfl, hb, hcell⟩ := HR.out (by omega)
    obtain ⟨c0, c1, c2, c3, c4⟩ := hcell wr GW.out k hlt
    obtain ⟨b0, b1, b2, b3, b4⟩ := HBW.out
    have HN : RowKit.Hid (l[k] ≠ ⟨xu, xr, xa, xf, xn⟩ → ∀ j (h : j < l.length), j < k + 1 → l[j] ≠ ⟨xu, xr, xa, xf, xn⟩) := fun h j hj h2 => by
      by_cases e : j = k
      · subst e; exact h
      · exact M.out j hj (by omega)
    have hit := HI2.out k hlt
    have HFK : RowKit.Hid (l[k] = ⟨xu, xr, xa, xf, xn⟩ → (l.flatMap Rel.cells).set (k * 5 + 3 + 1) (.int .i64 day) = (l.set k (cutR ⟨xu, xr, xa, xf, xn⟩ day)).flatMap Rel.cells) := fun e => HFC.out k (by rw [List.getElem?_eq_getElem hlt, e])
    generalize l[k] = y at c0 c1 c2 c3 c4 HN hit HFK
    obtain ⟨yu, yr, ya, yf, yn⟩ := y
    dsimp only at c0 c1 c2 c3 c4 b0 b1 b2 b3 b4
    have kN := fun w => relNeq yu yr ya yf yn xu xr xa xf xn w
    clear hcell
    by_cases heq : (⟨yu, yr, ya, yf, yn⟩ : Rel) = ⟨xu, xr, xa, xf, xn⟩
    case neg =>
      have HNN := Lib.hid (HN.out heq)
      simp only [decide_eq_false heq] at kN
      clear heq hit HN HFK M HI2 HS2
      go_wp2
      go_quiet (fail)
      clear c0 c1 c2 c3 c4 b0 b1 b2 b3 b4
      go_wp2
      go_roundg (l.length - (k + 1))
      case measure => omega
      case rel => exact ⟨k + 1, by omega, by omega, by go_num, (show Aside _ from BW.out.drewN _), (show Aside _ from HNN.out)⟩
    have hE5 : yu = xu ∧ yr = xr ∧ ya = xa ∧ yf = xf ∧ yn = xn := by simpa using heq
    obtain ⟨rfl, rfl, rfl, rfl, rfl⟩ := hE5
    have hRes := hit rfl
    have HF := Lib.hid (HFK.out rfl)
    simp only [decide_true] at kN
    clear heq hit HN HFK M HI2 HS2
    by_cases h4 : day ≤ yf ∨ yn < day
    · rw [if_pos h4] at hRes
      subst hRes
      have hsp : (decide (day ≤ yf) = true) ∨ (decide (day ≤ yf) = false ∧ decide (yn < day) = true) := by
        by_cases h : day ≤ yf
        · exact .inl (by simpa using h)
        · exact .inr ⟨by simpa using h, by simp; omega⟩
      clear h4
      rcases hsp with a1 | ⟨a1, a2⟩
      all_goals
        go_wp2
        go_quiet (fail)
        go_wp2
        go_ret2
        exact ⟨_, rfl, SlR.nil _, GW.out.drewN _⟩
    · rw [if_neg h4] at hRes
      subst hRes
      have a1 : decide (day ≤ yf) = false := by simp; omega
      have a2 : decide (yn < day) = false := by simp; omega
      clear h4
      have hpl : (l.flatMap Rel.cells).length = l.length * 5 := flatMap_len Rel.cells 5 (fun _ => rfl) l
      have HPL := Lib.hid hpl
      clear hpl
      go_wp2
      go_quiet (fail)
      go_wp2_with (at_builtin; refine appR rfl _ _ 23 rfl w 27 k0 (.agg #[.int .i64 0, .int .i64 0, .int .i64 0, .int .i64 0, .int .i64 0]) 5 40 Tryz.underlying23 hk0 hx0 hx1 hx2 rfl (by omega) _ 0 [] (by rfl) _ (own_lit _ rfl (by have := GW.out.size; simpa using this)) ((GW.out.drewN _).alloc _) _ l.length (l.flatMap Rel.cells) (by rfl) (Rd.mono HV.out ((GW.out.drewN _).alloc _)) HPL.out (one_cellsR _) (by unfold maxLen; omega) (by omega) ?_; intro v5 w5 o5 g5 _; rw [Nat.zero_add, List.nil_append] at o5; obtain ⟨gk, cap, rfl, hbg, hgl, hcap⟩ := own_form o5 (by omega); have hcm := own_max o5; obtain ⟨uu, _, hcw⟩ := own_cell o5 (k * 5 + 3 + 1) (by omega); have hfz := o5.frozenAt (k * 5 + 3 + 1); have HO6 := Lib.hid o5; have G6 := Lib.hid g5; clear o5 g5 c0 c1 c2 c3 c4 b0 b1 b2 b3 b4 hk0 hx0 hx1 hx2)
      go_wp2
      go_ret2
      refine ⟨_, rfl, ?_, G6.out.setCell hbg _⟩
      have hfin := Rd.of_own (HO6.out.stored (k * 5 + 3 + 1) (.int .i64 day)).1
      rw [HF.out] at hfin
      exact hfin
end Go.Proofs.YtfghbendiofbeaaGreatDoor

/- The reference's comparison of lists of relations, walked at two lists that read alike. No condition. -/
namespace Go.Proofs.YtfghbendiofbeaaGreatDoor
open Go.RowKit

set_option maxHeartbeats 8000000 in
theorem refSameL (l : List Rel) (v u : Value) (w : World) (hv : SlR w v l) (hu : SlR w u l) : Calls Tryz.prog 23 #[v, u] w fun e w' => e = .returned (.bool true) ∧ Grew w w' := by
  obtain ⟨A, c, rfl, hlc, hc, hr⟩ := hv.open_
  obtain ⟨A', c', rfl, hlc', hc', hr'⟩ := hu.open_
  unfold maxLen at hc hc'
  have HR := Lib.hid hr
  have HR' := Lib.hid hr'
  have hne : ((l.length : Int) != (l.length : Int)) = false := by simp
  clear hr hr' hv hu
  go_enter Tryz.func23, Tryz.ntmps23
  go_wp2
  go_loopg [5] l.length (fun gg s5 wr => ∃ k : Nat, k ≤ l.length ∧ l.length - k ≤ gg ∧ s5 = .int .i64 k ∧ Aside (Grew w wr))
  case atStart => exact ⟨0, by omega, by omega, rfl, (show Aside _ from Grew.refl _)⟩
  case round =>
    obtain ⟨k, hk, hgk, rfl, BW⟩ := hrel
    by_cases hlt : k < l.length
    · have hltz : (k : Int) < (l.length : Int) := by omega
      have h0z : (0 : Int) ≤ (k : Int) := by omega
      obtain ⟨b, off, rfl, hb, hcell⟩ := HR.out (by omega)
      obtain ⟨b', off', rfl, hb', hcell'⟩ := HR'.out (by omega)
      obtain ⟨c0, c1, c2, c3, c4⟩ := hcell wr BW.out k hlt
      obtain ⟨d0, d1, d2, d3, d4⟩ := hcell' wr BW.out k hlt
      generalize l[k] = y at c0 c1 c2 c3 c4 d0 d1 d2 d3 d4
      obtain ⟨yu, yr, ya, yf, yn⟩ := y
      dsimp only at c0 c1 c2 c3 c4 d0 d1 d2 d3 d4
      have kN := fun w => relNeq yu yr ya yf yn yu yr ya yf yn w
      simp only [decide_true] at kN
      clear hcell hcell'
      go_wp2
      go_quiet (fail)
      clear c0 c1 c2 c3 c4 d0 d1 d2 d3 d4
      go_wp2
      go_roundg (l.length - (k + 1))
      case measure => omega
      case rel => exact ⟨k + 1, by omega, by omega, by go_num, (show Aside _ from BW.out.drewN _)⟩
    · have hltz : ¬ (k : Int) < (l.length : Int) := by omega
      go_wp2
      go_ret
      exact ⟨rfl, BW.out⟩
end Go.Proofs.YtfghbendiofbeaaGreatDoor

/- The frame that every statement of this seat needs: what a call that returns true and leaves all older blocks alone gives for the row; the witness's world, in which the listed tables lie; what the library's own variables hold. No condition. -/
namespace Go.Proofs.YtfghbendiofbeaaGreatDoor
open Go.ChangeShapes Go.WideShapes Go.ChangeAt Go.RowKit

theorem own : ownKnob Tryz.prog.godebug = none := by kernel_rfl
theorem laidOut : laidOutB Tryz.prog = true := by kernel_rfl

/-- Arguments read as before where nothing older has turned. -/
theorem trodAll_stays {H : Type} {enc : TypeId × Value → H} {P : Program} (hl : laidOutB P = true) {W W' : World} (hb : Below W.heap.size W W') : ∀ {ts : List TypeId} {vs : List Value} {ds : List (DataW H)} {ps : List MemPlace},
    (ts.all fun t => P.readableRec t && decide (t < P.types.size)) = true → DataW.TrodAll enc P W 0 (fun _ => true) true ts vs ds ps → (∀ x ∈ ps, x.block < W.heap.size) → DataW.TrodAll enc P W' 0 (fun b => decide (b < W.heap.size)) true ts vs ds ps
  | [], _, _, _, _, h, _ => by
    obtain ⟨rfl, rfl, rfl⟩ := trodAll_nil h
    exact trodAll_mk0
  | t :: ts, _, _, _, hr, h, hlt => by
    obtain ⟨v, vs, d, ds, p, q, rfl, rfl, rfl, h1, h2⟩ := trodAll_cons h
    simp only [List.all_cons, Bool.and_eq_true, decide_eq_true_eq] at hr
    exact trodAll_cons_mk (Below.trod hl hr.1.1 hr.1.2 h1 hb fun x hx => hlt x (List.mem_append_left _ hx)) (trodAll_stays hl hb (by simpa using hr.2) h2 fun x hx => hlt x (List.mem_append_right _ hx))

/-- What the row asks of a call that returned true and left everything older as it lay. -/
theorem post_true {H : Type} {enc : TypeId × Value → H} {P : Program} (hl : laidOutB P = true) {f : Func} {s : ChangeSpec} {W W' : World} {args : Array Value} {ds gs : List (DataW H)} {before : List MemPlace} {tb : TypeId}
    (hv : s.vars = []) (hr : f.resultTypes = #[tb]) (hb : P.underlying tb = some .bool) (hp : (f.params.toList.all fun t => P.readableRec t && decide (t < P.types.size)) = true)
    (hW : DataW.Whole enc P f.params.toList s.vars false W args.toList ds gs before) (hfn : s.fn H ds = { results := [.lit (.bool true)], args := ds }) (hg : Below W.heap.size W W') :
    s.post enc P f false true false false W args (.bool true) W' := by
  have hlt := hW.lt
  have hW' := hW
  obtain ⟨p, q, hA, hV, rfl, _, _⟩ := hW
  have hV' := hV
  rw [hv] at hV'
  obtain ⟨rfl, rfl⟩ := trodVars_none hV'
  simp only [List.append_nil] at hlt hW'
  refine ⟨ds, [], p, [], p, [], hW', ?_, ?_, ?_, hg.frame _, fun h => by cases h⟩
  · rw [hr, List.append_nil, hfn]
    exact trodAll_mk1 (shut_bool hb true)
  · rw [List.append_nil, hfn]
    exact trodAll_stays hl hg hp hA hlt
  · rw [List.append_nil, hfn, hv]
    rfl
/-- The witness's world: the settled one with the tables laid. -/
noncomputable def base0R (os : Os) : World := World.holding Tryz.prog os ⟨#[], #[], []⟩
noncomputable def worldLaid (os : Os) : World :=
  { base0R os with heap := ((((base0R os).heap.modify 1 fun
      | .cells _ t frozen => .cells #[.int .u8 0, .int .u8 1, .int .u8 28, .int .u8 2, .int .u8 29, .int .u8 14, .int .u8 24, .int .u8 3, .int .u8 30, .int .u8 22, .int .u8 20, .int .u8 15, .int .u8 25, .int .u8 17, .int .u8 4, .int .u8 8, .int .u8 31, .int .u8 27, .int .u8 13, .int .u8 23, .int .u8 21, .int .u8 19, .int .u8 16, .int .u8 7, .int .u8 26, .int .u8 12, .int .u8 18, .int .u8 6, .int .u8 11, .int .u8 5, .int .u8 10, .int .u8 9] t frozen
      | o => o).modify 2 fun
      | .cells _ t frozen => .cells #[.int .u8 0, .int .u8 1, .int .u8 56, .int .u8 2, .int .u8 57, .int .u8 49, .int .u8 28, .int .u8 3, .int .u8 61, .int .u8 58, .int .u8 42, .int .u8 50, .int .u8 38, .int .u8 29, .int .u8 17, .int .u8 4, .int .u8 62, .int .u8 47, .int .u8 59, .int .u8 36, .int .u8 45, .int .u8 43, .int .u8 51, .int .u8 22, .int .u8 53, .int .u8 39, .int .u8 33, .int .u8 30, .int .u8 24, .int .u8 18, .int .u8 12, .int .u8 5, .int .u8 63, .int .u8 55, .int .u8 48, .int .u8 27, .int .u8 60, .int .u8 41, .int .u8 37, .int .u8 16, .int .u8 46, .int .u8 35, .int .u8 44, .int .u8 21, .int .u8 52, .int .u8 32, .int .u8 23, .int .u8 11, .int .u8 54, .int .u8 26, .int .u8 40, .int .u8 15, .int .u8 34, .int .u8 20, .int .u8 31, .int .u8 10, .int .u8 25, .int .u8 14, .int .u8 19, .int .u8 9, .int .u8 13, .int .u8 8, .int .u8 7, .int .u8 6] t frozen
      | o => o).modify 0 fun
      | .cells _ t frozen => .cells #[.int .u64 1, .int .u64 10, .int .u64 100, .int .u64 1000, .int .u64 10000, .int .u64 100000, .int .u64 1000000, .int .u64 10000000, .int .u64 100000000, .int .u64 1000000000, .int .u64 10000000000, .int .u64 100000000000, .int .u64 1000000000000, .int .u64 10000000000000, .int .u64 100000000000000, .int .u64 1000000000000000, .int .u64 10000000000000000, .int .u64 100000000000000000, .int .u64 1000000000000000000, .int .u64 10000000000000000000] t frozen
      | o => o) }
def laidAll : List (String × DataW Unit) := [("math/bits.deBruijn32tab", Rows.laid_math_bits_deBruijn32tab), ("math/bits.deBruijn64tab", Rows.laid_math_bits_deBruijn64tab), ("internal/strconv.uint64pow10", Rows.laid_internal_strconv_uint64pow10)]
theorem pow_only : (laidAll.filter fun x => x.1 == "internal/strconv.uint64pow10") = [("internal/strconv.uint64pow10", Lib.tabData .u64 Lib.pow10Tab)] := by kernel_rfl
/-- What the library's own variables hold. -/
theorem env_of {W : World} (h1 : laidMetH Tryz.prog laidAll W) (h2 : W.ShapedOpen Tryz.prog) : Env W := by
  refine ⟨cell_of_shapedOpen_int (g := 3) (t := 3) (zero := #[.int .i64 0]) h2 (of_decide_eq_true (by kernel_rfl)) (by kernel_rfl) rfl (by kernel_rfl) (by kernel_rfl) Tryz.underlying3, ?_⟩
  have h := h1.filter (fun x => x.1 == "internal/strconv.uint64pow10")
  rw [pow_only] at h
  have h3 := (laidMetH_iff.1 h).1
  have h4 : laidMet Tryz.prog [("internal/strconv.uint64pow10", Lib.tabData .u64 Lib.pow10Tab)] W := h3
  exact Lib.tabIs_of_head (g := 0) (t := 170) (e := 148) (n := 20) (by kernel_rfl) (by kernel_rfl) Tryz.underlying170 Tryz.underlying148 (by kernel_rfl) (by kernel_rfl) h4
end Go.Proofs.YtfghbendiofbeaaGreatDoor

/- What the lists of authorities and relations, the relations and the trees that come in read as. No condition. -/
namespace Go.Proofs.YtfghbendiofbeaaGreatDoor
open Go.ChangeShapes Go.WideShapes Go.ChangeAt Go.RowKit

theorem spot_none {w : World} {a : Addr} {u : Value} (h : w.cell? a = some u) : a.spot = none := by
  unfold World.cell? at h
  split at h
  · split at h
    · cases h
    · rename_i hs
      cases hz : a.spot with
      | none => rfl
      | some x => rw [hz] at hs; simp at hs
  · cases h
/-- A slice that is led to, whose elements read as things of one kind. -/
theorem open_in {α : Type} {H : Type} {enc : TypeId × Value → H} {P : Program} {W : World} {k n : Nat} {t e : TypeId} {cs : List Value} {x : DataW H × List MemPlace} (f : α → List Value) (Q : α → Prop) (hk : ∀ x, (f x).length = k) (h0 : 0 < k)
    (ht : P.underlying t = some (.slice e)) (hc : P.cellsOf e = k) (hel : ∀ n cs x, DataW.trod enc P W 0 (fun _ => true) true n e cs = some x → ∃ a, cs = f a ∧ Q a)
    (hf : DataW.trod enc P W 0 (fun _ => true) true n t cs = some x) : ∃ v, cs = [v] ∧ ∃ l : List α, Rd W k v (l.flatMap f) ∧ ∀ a ∈ l, Q a := by
  rcases Go.Deep.open_slice ht hf with ⟨hn, -⟩ | ⟨a, len0, cap0, m, n, D, Pl, hn, -, hle, hmx, hm, -, hcell⟩
  · exact ⟨_, hn, [], Rd.nil W k, (fun _ h => by cases h)⟩
  · refine ⟨_, hn, ?_⟩
    simp only [if_true] at hm
    subst hm
    rw [hc] at hcell
    have key : ∀ m, m ≤ len0 → ∃ l : List α, l.length = m ∧ (∀ a ∈ l, Q a) ∧ ∀ i (hi : i < l.length) j, j < k → W.cell? (a.add (i * k + j)) = (f l[i])[j]? := by
      intro m
      induction m with
      | zero => exact fun _ => ⟨[], rfl, (fun _ h => by cases h), fun i hi => absurd hi (Nat.not_lt_zero _)⟩
      | succ m ih =>
        intro hm
        obtain ⟨l, hl, hQ, hr⟩ := ih (by omega)
        obtain ⟨cs', hcs, htr⟩ := hcell m (by omega)
        obtain ⟨x, rfl, hx⟩ := hel _ _ _ htr
        obtain ⟨-, -, hcs⟩ := World.cells?_some hcs
        refine ⟨l ++ [x], by simp [hl], fun b hb => ?_, fun i hi j hj => ?_⟩
        · rcases List.mem_append.1 hb with h | h
          · exact hQ b h
          · rw [List.mem_singleton.1 h]; exact hx
        · by_cases hi' : i < l.length
          · rw [hr i hi' j hj, List.getElem_append_left hi']
          · have : i = m := by simp at hi; omega
            subst this
            have := hcs j hj
            rw [Go.Deep.add_add] at this
            rw [this, List.getElem_append_right (by omega)]
            simp [hl]
    obtain ⟨l, hl, hQ, hr⟩ := key len0 (Nat.le_refl _)
    refine ⟨l, ⟨some a, len0, _, rfl, by rw [flatMap_len f k hk, hl], hle, hmx, fun hpos => ?_⟩, hQ⟩
    have hz := hr 0 (by omega) 0 h0
    have hlt0 : 0 < (f (l[0]'(by omega))).length := by rw [hk]; exact h0
    rw [List.getElem?_eq_getElem hlt0] at hz
    have hsp := spot_none hz
    have ha0 : a.add (0 * k + 0) = a := by simp [Addr.add]
    rw [ha0] at hsp hz
    obtain ⟨b, off, sp⟩ := a
    obtain rfl : sp = none := hsp
    refine ⟨b, off, rfl, World.block_lt_of_cell? W _ hz, fun j u hu => ?_⟩
    have hj : j < len0 * k := by
      have := (List.getElem?_eq_some_iff.1 hu).1
      rwa [flatMap_len f k hk, hl] at this
    have hdiv : j / k < len0 := Nat.div_lt_of_lt_mul (by rw [Nat.mul_comm]; exact hj)
    have hmod : j % k < k := Nat.mod_lt _ h0
    have e : j = j / k * k + j % k := by rw [Nat.mul_comm]; exact (Nat.div_add_mod j k).symm
    have h1 := hr (j / k) (by omega) (j % k) hmod
    rw [add_lit, ← e] at h1
    rw [h1, ← flatMap_get f k hk l (j / k) (j % k) (by omega) hmod, ← e]
    exact hu
section
variable {H : Type} {enc : TypeId × Value → H} {W : World}
set_option maxRecDepth 100000 in
theorem in_int {n : Nat} {cs : List Value} {x : DataW H × List MemPlace} (h : DataW.trod enc Tryz.prog W 0 (fun _ => true) true n 3 cs = some x) : ∃ a : Int, cs = [.int .i64 a] := by
  obtain ⟨a, ha, -⟩ := DataW.trod_int Tryz.underlying3 h
  exact ⟨a, ha⟩
set_option maxRecDepth 100000 in
theorem in_slI {n : Nat} {cs : List Value} {x : DataW H × List MemPlace} (h : DataW.trod enc Tryz.prog W 0 (fun _ => true) true n 43 cs = some x) : ∃ v, cs = [v] ∧ ∃ l, SlI W v l := by
  obtain ⟨v, hv, l, hl, -⟩ := open_in (k := 1) oneI (fun _ => True) (fun _ => rfl) (by omega) Tryz.underlying43 (by kernel_rfl) (fun n cs x hx => by obtain ⟨a, ha⟩ := in_int hx; exact ⟨a, ha, trivial⟩) h
  exact ⟨v, hv, l, hl⟩
set_option maxRecDepth 100000 in
theorem in_span {n : Nat} {cs : List Value} {x : DataW H × List MemPlace} (h : DataW.trod enc Tryz.prog W 0 (fun _ => true) true n 25 cs = some x) : ∃ a b : Int, cs = [.int .i64 a, .int .i64 b] := by
  obtain ⟨xs, m, -, -, hl, hlen, hf⟩ := DataW.trod_struct Tryz.underlying25 h
  have hl4 : cs.length = 2 := hl.trans (by kernel_rfl)
  match xs, hlen with
  | [y0, y1], _ =>
    have h0 := hf 0 _ rfl
    have h1 := hf 1 _ rfl
    match cs, hl4 with
    | [c0, c1], _ =>
      have k1 : Tryz.prog.cellsOf 3 = 1 := by kernel_rfl
      simp only [List.getElem_toArray, List.getElem_cons_zero, List.getElem_cons_succ, k1, List.getElem?_cons_zero, List.getElem?_cons_succ, List.drop_zero, List.drop_succ_cons, List.take_succ_cons, List.take_zero] at h0 h1
      obtain ⟨a, ha⟩ := in_int h0
      obtain ⟨b, hb⟩ := in_int h1
      simp only [List.cons.injEq, and_true] at ha hb
      subst ha hb
      exact ⟨a, b, rfl⟩
set_option maxRecDepth 100000 in
theorem in_nam {n : Nat} {cs : List Value} {x : DataW H × List MemPlace} (h : DataW.trod enc Tryz.prog W 0 (fun _ => true) true n 69 cs = some x) : ∃ a : Nam, cs = a.cells := by
  obtain ⟨xs, m, -, -, hl, hlen, hf⟩ := DataW.trod_struct Tryz.underlying69 h
  have hl4 : cs.length = 3 := hl.trans (by kernel_rfl)
  match xs, hlen with
  | [y0, y1], _ =>
    have h0 := hf 0 _ rfl
    have h1 := hf 1 _ rfl
    match cs, hl4 with
    | [c0, c1, c2], _ =>
      have k1 : Tryz.prog.cellsOf 9 = 1 := by kernel_rfl
      have k2 : Tryz.prog.cellsOf 25 = 2 := by kernel_rfl
      simp only [List.getElem_toArray, List.getElem_cons_zero, List.getElem_cons_succ, k1, k2, List.getElem?_cons_zero, List.getElem?_cons_succ, List.drop_zero, List.drop_succ_cons, List.take_succ_cons, List.take_zero] at h0 h1
      obtain ⟨a, ha, -⟩ := DataW.trod_string Tryz.underlying9 h0
      obtain ⟨b, c, hb⟩ := in_span h1
      simp only [List.cons.injEq, and_true] at ha hb
      obtain ⟨rfl, rfl⟩ := hb
      subst ha
      exact ⟨⟨a, b, c⟩, rfl⟩
set_option maxRecDepth 100000 in
theorem in_rel {n : Nat} {cs : List Value} {x : DataW H × List MemPlace} (h : DataW.trod enc Tryz.prog W 0 (fun _ => true) true n 27 cs = some x) : ∃ a : Rel, cs = a.cells := by
  obtain ⟨xs, m, -, -, hl, hlen, hf⟩ := DataW.trod_struct Tryz.underlying27 h
  have hl4 : cs.length = 5 := hl.trans (by kernel_rfl)
  match xs, hlen with
  | [y0, y1, y2, y3], _ =>
    have h0 := hf 0 _ rfl
    have h1 := hf 1 _ rfl
    have h2 := hf 2 _ rfl
    have h3 := hf 3 _ rfl
    match cs, hl4 with
    | [c0, c1, c2, c3, c4], _ =>
      have k1 : Tryz.prog.cellsOf 3 = 1 := by kernel_rfl
      have k2 : Tryz.prog.cellsOf 25 = 2 := by kernel_rfl
      simp only [List.getElem_toArray, List.getElem_cons_zero, List.getElem_cons_succ, k1, k2, List.getElem?_cons_zero, List.getElem?_cons_succ, List.drop_zero, List.drop_succ_cons, List.take_succ_cons, List.take_zero] at h0 h1 h2 h3
      obtain ⟨a, ha⟩ := in_int h0
      obtain ⟨b, hb⟩ := in_int h1
      obtain ⟨c, hc⟩ := in_int h2
      obtain ⟨d, e, hd⟩ := in_span h3
      simp only [List.cons.injEq, and_true] at ha hb hc hd
      obtain ⟨rfl, rfl⟩ := hd
      subst ha hb hc
      exact ⟨⟨a, b, c, d, e⟩, rfl⟩
set_option maxRecDepth 100000 in
theorem in_au {n : Nat} {cs : List Value} {x : DataW H × List MemPlace} (h : DataW.trod enc Tryz.prog W 0 (fun _ => true) true n 72 cs = some x) : ∃ c : AuC, cs = c.cells ∧ ∃ a, AuOk W c a := by
  obtain ⟨xs, m, -, -, hl, hlen, hf⟩ := DataW.trod_struct Tryz.underlying72 h
  have hl4 : cs.length = 6 := hl.trans (by kernel_rfl)
  match xs, hlen with
  | [y0, y1, y2, y3, y4], _ =>
    have h0 := hf 0 _ rfl
    have h1 := hf 1 _ rfl
    have h2 := hf 2 _ rfl
    have h3 := hf 3 _ rfl
    have h4 := hf 4 _ rfl
    match cs, hl4 with
    | [c0, c1, c2, c3, c4, c5], _ =>
      have k1 : Tryz.prog.cellsOf 3 = 1 := by kernel_rfl
      have k2 : Tryz.prog.cellsOf 25 = 2 := by kernel_rfl
      have k3 : Tryz.prog.cellsOf 70 = 1 := by kernel_rfl
      have k4 : Tryz.prog.cellsOf 43 = 1 := by kernel_rfl
      simp only [List.getElem_toArray, List.getElem_cons_zero, List.getElem_cons_succ, k1, k2, k3, k4, List.getElem?_cons_zero, List.getElem?_cons_succ, List.drop_zero, List.drop_succ_cons, List.take_succ_cons, List.take_zero] at h0 h1 h2 h3 h4
      obtain ⟨a, ha⟩ := in_int h0
      obtain ⟨b, hb⟩ := in_int h1
      obtain ⟨d, e, hd⟩ := in_span h2
      obtain ⟨nv, hn, ns, hns, -⟩ := open_in (k := 3) Nam.cells (fun _ => True) (fun _ => rfl) (by omega) Tryz.underlying70 (by kernel_rfl) (fun n cs x hx => by obtain ⟨a, ha⟩ := in_nam hx; exact ⟨a, ha, trivial⟩) h3
      obtain ⟨xv, hx, xs, hxs⟩ := in_slI h4
      simp only [List.cons.injEq, and_true] at ha hb hd hn hx
      obtain ⟨rfl, rfl⟩ := hd
      subst ha hb hn hx
      exact ⟨⟨a, b, d, e, c4, c5⟩, rfl, ⟨a, b, d, e, ns, xs⟩, rfl, hns, hxs⟩
theorem choose_list {α β : Type} {R : α → β → Prop} : ∀ l : List α, (∀ a ∈ l, ∃ b, R a b) → ∃ m : List β, l.length = m.length ∧ ∀ i (h : i < l.length) (h' : i < m.length), R l[i] m[i]
  | [], _ => ⟨[], rfl, fun _ h => absurd h (Nat.not_lt_zero _)⟩
  | a :: l, h => by
    obtain ⟨b, hb⟩ := h a (List.mem_cons_self ..)
    obtain ⟨m, hm, hr⟩ := choose_list l (fun x hx => h x (List.mem_cons_of_mem _ hx))
    refine ⟨b :: m, by simp [hm], fun i h1 h2 => ?_⟩
    cases i with
    | zero => exact hb
    | succ i => exact hr i (by simpa using h1) (by simpa using h2)
set_option maxRecDepth 100000 in
theorem in_slR {n : Nat} {cs : List Value} {x : DataW H × List MemPlace} (h : DataW.trod enc Tryz.prog W 0 (fun _ => true) true n 23 cs = some x) : ∃ v, cs = [v] ∧ ∃ l, SlR W v l := by
  obtain ⟨v, hv, l, hl, -⟩ := open_in (k := 5) Rel.cells (fun _ => True) (fun _ => rfl) (by omega) Tryz.underlying23 (by kernel_rfl) (fun n cs x hx => by obtain ⟨a, ha⟩ := in_rel hx; exact ⟨a, ha, trivial⟩) h
  exact ⟨v, hv, l, hl⟩
set_option maxRecDepth 100000 in
theorem in_slAu {n : Nat} {cs : List Value} {x : DataW H × List MemPlace} (h : DataW.trod enc Tryz.prog W 0 (fun _ => true) true n 22 cs = some x) : ∃ v, cs = [v] ∧ ∃ l, SlAu W v l := by
  obtain ⟨v, hv, l, hl, hQ⟩ := open_in (k := 6) AuC.cells (fun c => ∃ a, AuOk W c a) (fun _ => rfl) (by omega) Tryz.underlying22 (by kernel_rfl) (fun n cs x hx => in_au hx) h
  obtain ⟨m, hm, hr⟩ := choose_list l hQ
  exact ⟨v, hv, m, l, hl, hm, hr⟩
set_option maxRecDepth 100000 in
theorem in_br {n : Nat} {cs : List Value} {x : DataW H × List MemPlace} (h : DataW.trod enc Tryz.prog W 0 (fun _ => true) true n 74 cs = some x) : ∃ c : BrC, cs = c.cells ∧ ∃ a, BrOk W c a := by
  obtain ⟨xs, m, -, -, hl, hlen, hf⟩ := DataW.trod_struct Tryz.underlying74 h
  have hl4 : cs.length = 6 := hl.trans (by kernel_rfl)
  match xs, hlen with
  | [y0, y1], _ =>
    have h0 := hf 0 _ rfl
    have h1 := hf 1 _ rfl
    match cs, hl4 with
    | [c0, c1, c2, c3, c4, c5], _ =>
      have k0 : Tryz.prog.cellsOf 57 = 5 := by kernel_rfl
      have k4 : Tryz.prog.cellsOf 43 = 1 := by kernel_rfl
      simp only [List.getElem_toArray, List.getElem_cons_zero, List.getElem_cons_succ, k0, k4, List.getElem?_cons_zero, List.getElem?_cons_succ, List.drop_zero, List.drop_succ_cons, List.take_succ_cons, List.take_zero] at h0 h1
      obtain ⟨us, m2, -, -, hl2, hlen2, hg⟩ := DataW.trod_struct Tryz.underlying57 h0
      match us, hlen2 with
      | [z0, z1, z2, z3, z4], _ =>
        have g0 := hg 0 _ rfl
        have g1 := hg 1 _ rfl
        have g2 := hg 2 _ rfl
        have g3 := hg 3 _ rfl
        have g4 := hg 4 _ rfl
        have k1 : Tryz.prog.cellsOf 3 = 1 := by kernel_rfl
        have k2 : Tryz.prog.cellsOf 9 = 1 := by kernel_rfl
        simp only [List.getElem_toArray, List.getElem_cons_zero, List.getElem_cons_succ, k1, k2, List.getElem?_cons_zero, List.getElem?_cons_succ, List.drop_zero, List.drop_succ_cons, List.take_succ_cons, List.take_zero] at g0 g1 g2 g3 g4
        obtain ⟨a, ha⟩ := in_int g0
        obtain ⟨b, hb⟩ := in_int g1
        obtain ⟨c, hc⟩ := in_int g2
        obtain ⟨d, hd, -⟩ := DataW.trod_string Tryz.underlying9 g3
        obtain ⟨e, he, -⟩ := DataW.trod_string Tryz.underlying9 g4
        obtain ⟨kv, hx, ks, hks⟩ := in_slI h1
        simp only [List.cons.injEq, and_true] at ha hb hc hd he hx
        subst ha hb hc hd he hx
        exact ⟨⟨a, b, c, d, e, c5⟩, rfl, ⟨a, b, c, d, e, ks⟩, rfl, hks⟩
set_option maxRecDepth 100000 in
theorem in_slBr {n : Nat} {cs : List Value} {x : DataW H × List MemPlace} (h : DataW.trod enc Tryz.prog W 0 (fun _ => true) true n 49 cs = some x) : ∃ v, cs = [v] ∧ ∃ l, SlBr W v l := by
  obtain ⟨v, hv, l, hl, hQ⟩ := open_in (k := 6) BrC.cells (fun c => ∃ a, BrOk W c a) (fun _ => rfl) (by omega) Tryz.underlying49 (by kernel_rfl) (fun n cs x hx => in_br hx) h
  obtain ⟨m, hm, hr⟩ := choose_list l hQ
  exact ⟨v, hv, m, l, hl, hm, hr⟩
set_option maxRecDepth 100000 in
theorem open_slAu {base : Nat} {v : Value} {d : DataW H} {ps : List MemPlace} (hval : Value.okWide Tryz.prog W .any base 22 v) (h : DataW.Trod enc Tryz.prog W 0 (fun _ => true) true 22 v d ps) : ∃ l, SlAu W v l := by
  obtain ⟨a0, len0, cap0, rfl⟩ := okWide_slice Tryz.underlying22 hval
  obtain ⟨fuel, hf⟩ := h
  obtain ⟨v, hv, l, hl⟩ := in_slAu hf
  simp only [Value.cells] at hv
  simp at hv
  subst hv
  exact ⟨l, hl⟩
set_option maxRecDepth 100000 in
theorem open_slR {base : Nat} {v : Value} {d : DataW H} {ps : List MemPlace} (hval : Value.okWide Tryz.prog W .any base 23 v) (h : DataW.Trod enc Tryz.prog W 0 (fun _ => true) true 23 v d ps) : ∃ l, SlR W v l := by
  obtain ⟨a0, len0, cap0, rfl⟩ := okWide_slice Tryz.underlying23 hval
  obtain ⟨fuel, hf⟩ := h
  obtain ⟨v, hv, l, hl⟩ := in_slR hf
  simp only [Value.cells] at hv
  simp at hv
  subst hv
  exact ⟨l, hl⟩
set_option maxRecDepth 100000 in
theorem open_rel {base : Nat} {v : Value} {d : DataW H} {ps : List MemPlace} (hval : Value.okWide Tryz.prog W .any base 27 v) (h : DataW.Trod enc Tryz.prog W 0 (fun _ => true) true 27 v d ps) : ∃ a : Rel, v = a.agg := by
  obtain ⟨cs, rfl, -⟩ := okWide_struct Tryz.underlying27 hval
  obtain ⟨fuel, hf⟩ := h
  obtain ⟨a, ha⟩ := in_rel hf
  simp only [Value.cells] at ha
  exact ⟨a, by obtain ⟨cs⟩ := cs; simp only at ha; rw [ha]; rfl⟩
set_option maxRecDepth 100000 in
theorem open_tree {base : Nat} {v : Value} {d : DataW H} {ps : List MemPlace} (hval : Value.okWide Tryz.prog W .any base 51 v) (h : DataW.Trod enc Tryz.prog W 0 (fun _ => true) true 51 v d ps) : ∃ rv bv, v = .agg #[rv, bv] ∧ ∃ t, TrOk W rv bv t := by
  obtain ⟨cs, rfl, -⟩ := okWide_struct Tryz.underlying51 hval
  obtain ⟨fuel, hf⟩ := h
  obtain ⟨xs, m, -, -, hl, hlen, hf⟩ := DataW.trod_struct Tryz.underlying51 hf
  simp only [Value.cells] at hl hf
  obtain ⟨cs⟩ := cs
  have hl4 : cs.length = 2 := hl.trans (by kernel_rfl)
  match xs, hlen with
  | [y0, y1], _ =>
    have h0 := hf 0 _ rfl
    have h1 := hf 1 _ rfl
    match cs, hl4 with
    | [c0, c1], _ =>
      have k1 : Tryz.prog.cellsOf 43 = 1 := by kernel_rfl
      have k2 : Tryz.prog.cellsOf 49 = 1 := by kernel_rfl
      simp only [List.getElem_toArray, List.getElem_cons_zero, List.getElem_cons_succ, k1, k2, List.getElem?_cons_zero, List.getElem?_cons_succ, List.drop_zero, List.drop_succ_cons, List.take_succ_cons, List.take_zero] at h0 h1
      obtain ⟨rv, hrv, rs, hrs⟩ := in_slI h0
      obtain ⟨bv, hbv, bs, hbs⟩ := in_slBr h1
      simp only [List.cons.injEq, and_true] at hrv hbv
      subst hrv hbv
      exact ⟨c0, c1, rfl, ⟨rs, bs⟩, hrs, hbs⟩
end
end Go.Proofs.YtfghbendiofbeaaGreatDoor
