/- Lemmas on what the functions of the program and of the library compute: R3, Lfi, Lim, J6, PlainWa, Lim2, J7, SetI, T12. The conditions stand at each. -/
import Derived.Test.YtmbpeniaefpljaaGreatDoorQ16
import Derived.Test.YtmbpeniaefpljaaGreatDoorQ36
import Derived.Test.YtmbpeniaefpljaaGreatDoorQ8
import Derived.Test.YtmbpeniaefpljaaGreatDoorQ11
import Derived.Test.YtmbpeniaefpljaaGreatDoorQ34
import Derived.Test.YtmbpeniaefpljaaGreatDoorQ32
import Derived.Test.YtmbpeniaefpljaaGreatDoorQ10
import Derived.Test.YtmbpeniaefpljaaGreatDoorQ3
import Derived.Test.YtmbpeniaefpljaaGreatDoorQ27
import Derived.Test.YtmbpeniaefpljaaGreatDoorQ2
import Derived.Maps.RangeWalk
import Derived.Maps.OwnSet
/- The reference implementation's bound on sizes, walked: where it says yes, the lists are short. No condition. -/
namespace Go.Proofs.YtmbpeniaefpljaaGreatDoor
open Go.RowKit

/-- How the bound ends: no, or yes and short. -/
def FewEnd (w : World) (n m : Nat) (e : Ending) (w' : World) : Prop := (e = .returned (.bool false) ∨ (e = .returned (.bool true) ∧ n ≤ 10 ∧ m ≤ 1025)) ∧ w = w'
set_option maxHeartbeats 4000000 in
theorem few_any (l : List ByteArray) (vs : List Val) (lv vv : Value) (w : World) (hl : SlS w lv l) (hv : SlV w vv vs) :
    Calls Tryz.prog 40 #[lv, vv] w fun e w' => FewEnd w l.length vs.length e w' := by
  obtain ⟨A, c, rfl, hlc, hc, hr⟩ := hl.open_
  obtain ⟨A', c', rfl, hlc', hc', hr'⟩ := hv.open_
  unfold maxLen at hc hc'
  have HR := Lib.hid hr
  have HR' := Lib.hid hr'
  clear hr hr' hl hv
  go_enter Tryz.func40, Tryz.ntmps40
  go_wp2
  go_loop [5] (fun i => ∃ k : Nat, k ≤ l.length ∧ i = .int .i64 k) (fun i => l.length - (intOf i).toNat)
  case atStart => exact ⟨0, by omega, rfl⟩
  case round =>
    obtain ⟨k, hk, rfl⟩ := hrel
    by_cases hlt : k < l.length
    · have hltz : (k : Int) < (l.length : Int) := by omega
      have h0z : (0 : Int) ≤ (k : Int) := by omega
      obtain ⟨b, off, rfl, hb, hcell⟩ := HR.out (by omega)
      have hcl := hcell w (Grew.refl w) k hlt
      generalize l[k] = y at hcl
      clear hcell
      by_cases hs : 20 < y.size
      · have hsz : (20 : Int) < (y.size : Int) := by omega
        go_wp2
        go_ret
        exact ⟨Or.inl rfl, rfl⟩
      · have hsz : decide ((20 : Int) < (y.size : Int)) = false := by simp; omega
        go_wp2
        go_round
        case rel => exact ⟨k + 1, by omega, by go_num⟩
        case measure => simp [intOf]; omega
    · have hltz : ¬ (k : Int) < (l.length : Int) := by omega
      go_wp2
      go_loop [6] (fun i => ∃ m : Nat, m ≤ vs.length ∧ i = .int .i64 m) (fun i => vs.length - (intOf i).toNat)
      case atStart => exact ⟨0, by omega, rfl⟩
      case round =>
        obtain ⟨m, hm, rfl⟩ := hrel
        by_cases hlm : m < vs.length
        · have hlmz : (m : Int) < (vs.length : Int) := by omega
          have h0m : (0 : Int) ≤ (m : Int) := by omega
          obtain ⟨b, off, rfl, hb, hcell⟩ := HR'.out (by omega)
          obtain ⟨-, -, c2, c3⟩ := hcell w (Grew.refl w) m hlm
          generalize vs[m].lang = yl at c2
          generalize vs[m].text = yt at c3
          clear hcell
          cases a1 : decide ((300 : Int) < (yt.size : Int)) <;> cases a2 : ((yt.size : Int) == 4096) <;> cases a3 : ((yt.size : Int) == 4097) <;> cases a4 : decide ((20 : Int) < (yl.size : Int))
          all_goals go_wp2
          all_goals first | (go_ret; exact ⟨Or.inl rfl, rfl⟩) | (go_round; (case rel => exact ⟨m + 1, by omega, by go_num⟩); (case measure => simp [intOf]; omega))
        · have hlmz : ¬ (m : Int) < (vs.length : Int) := by omega
          cases a1 : decide ((l.length : Int) ≤ 10) <;> cases a2 : decide ((vs.length : Int) ≤ 30) <;> cases a3 : ((vs.length : Int) == 1025)
          all_goals go_wp2
          all_goals go_ret
          all_goals refine ⟨?_, rfl⟩
          all_goals first | exact Or.inl rfl | exact Or.inr ⟨rfl, by simp at a1 a2 a3; omega, by simp at a1 a2 a3; omega⟩
end Go.Proofs.YtmbpeniaefpljaaGreatDoor

/- The bound on sizes of layer 28, walked: where it says yes, the lists are short. No condition. -/
namespace Go.Proofs.YtmbpeniaefpljaaGreatDoor
open Go.RowKit

def FewI (t : Tr) (ls : List ByteArray) (vs : List Val) : Prop := FewTM t.roots t.brs ∧ ls.length ≤ 10 ∧ vs.length ≤ 1025
theorem few28_1 (s : ByteArray) (w : World) : Calls Tryz.prog 42 #[.string s] w fun e w' => e = .returned (.bool (decide (20 < (s.size : Int)))) ∧ Grew w w' := by
  go_enter Tryz.func42, Tryz.ntmps42
  go_wp2
  go_ret
  exact ⟨rfl, Grew.refl w⟩
theorem enters_few28 : ∀ args w, (callFunc 42 args).run Tryz.prog w = .ok (.enter 42 args) w := enters_of Tryz.func42 (by kernel_rfl) rfl
set_option maxHeartbeats 2000000 in
theorem fewLawI (t : Tr) (ls : List ByteArray) (vs : List Val) (ms : List ByteArray) (rv bv lv vv mv : Value) (w : World) (hr : SlI w rv t.roots) (hv : SlBr w bv t.brs) (hl : SlS w lv ls) (hvv : SlV w vv vs) (hm : SlS w mv ms) :
    Calls Tryz.prog 11 #[.agg #[rv, bv], lv, vv, mv] w (YesIf (FewI t ls vs) w) := by
  have KT := Lib.hid (fun W (hW : Grew w W) => few19_m t.roots t.brs rv bv W (hr.mono hW) (hv.mono hW))
  have KL := Lib.hid (fun W (hW : Grew w W) => few_any ls vs lv vv W (hl.mono hW) (hvv.mono hW))
  have KM := Lib.hid (fun W (hW : Grew w W) => containsFuncS ms (fun s => decide (20 < (s.size : Int))) _ #[] enters_few28 mv W (hm.mono hW) (fun W2 x _ _ => by rw [show (#[Value.string x] ++ #[] : Array Value) = #[.string x] by simp]; exact few28_1 x W2))
  obtain ⟨Ar, cr, rfl, -⟩ := hr.open_
  obtain ⟨Ab, cb, rfl, -⟩ := hv.open_
  have HFI := Lib.hid (show FewTM t.roots t.brs → ls.length ≤ 10 → vs.length ≤ 1025 → FewI t ls vs from fun a b c => ⟨a, b, c⟩)
  generalize FewI t ls vs = FI at HFI ⊢
  generalize (ms.any fun s => decide (20 < (s.size : Int))) = m at KM
  clear hr hv hl hvv hm
  go_enter Tryz.func11, Tryz.ntmps11
  go_wp2_with fail
  refine (KT.out _ ((Grew.refl w).alloc _)).mono ?_
  rintro e w1 ⟨q, rfl, hq, g1⟩
  have HQ := Lib.hid hq
  have HG1 := Lib.hid (((Grew.refl w).alloc _).trans g1)
  clear hq g1 KT
  dsimp only
  cases q with
  | false =>
    go_wp2
    go_ret
    exact YesIf.no HG1.out
  | true =>
    go_wp2_with fail
    refine (KL.out _ HG1.out).mono ?_
    rintro e w2 ⟨h2, rfl⟩
    rcases h2 with rfl | ⟨rfl, h3, h4⟩
    · dsimp only
      go_wp2
      go_ret
      exact YesIf.no HG1.out
    · have HF := Lib.hid (HFI.out (HQ.out (by first | rfl | trivial)) h3 h4)
      clear h3 h4 HQ HFI
      dsimp only
      go_wp2_with fail
      refine (KM.out _ HG1.out).mono ?_
      rintro e w3 ⟨rfl, g3⟩
      have HG3 := Lib.hid (HG1.out.trans g3)
      clear g3 KM
      dsimp only
      cases m with
      | true =>
        go_wp2
        go_ret
        exact YesIf.no HG3.out
      | false =>
        go_wp2
        go_ret
        exact YesIf.yes HF.out HG3.out
end Go.Proofs.YtmbpeniaefpljaaGreatDoor

/- What the laws of layer 28 share. No condition. -/
namespace Go.Proofs.YtmbpeniaefpljaaGreatDoor
open Go.RowKit

/-- Behind `v, ok, e := Found(..)`: a value lies in a box of its own. -/
def ValCut3 (W0 : World) (xu xe : Int) (xl xt : ByteArray) (s : Bool) (n : Int) (s1 s2 s3 : Value) (wx : World) : Prop := ValCut W0 xu xe xl xt s s1 s2 wx ∧ s3 = .int .i64 n
theorem val3 {W0 wx : World} {xu xe : Int} {xl xt : ByteArray} {s : Bool} {n : Int} {s1 s2 : Value} (h : ValCut W0 xu xe xl xt s s1 s2 wx) : ValCut3 W0 xu xe xl xt s n s1 s2 (.int .i64 n) wx := ⟨h, rfl⟩
/-- Behind `l, e := Reach(..)`. -/
def LisCut (W0 : World) (l : List Int) (n : Int) (s1 s2 : Value) (wx : World) : Prop := (∃ A c, s1 = .slice A l.length c) ∧ s2 = .int .i64 n ∧ Aside (SlI wx s1 l) ∧ Aside (Grew W0 wx)
def LvsCut (W0 : World) (l : List Val) (n : Int) (s1 s2 : Value) (wx : World) : Prop := (∃ A c, s1 = .slice A l.length c) ∧ s2 = .int .i64 n ∧ Aside (SlV wx s1 l) ∧ Aside (Grew W0 wx)
theorem heldI (w1 W : World) {p q : Addr} {x y : Value} (h : w1.cell? p = some x) (h2 : w1.cell? q = some y) (g : Grew w1 W) : W.cell? p = some x ∧ W.cell? q = some y ∧ Grew w1 W := ⟨keep_cell g h, keep_cell g h2, g⟩
theorem clS (ls : List ByteArray) (v : Value) (w : World) (h : SlS w v ls) (hb : ls.length ≤ 10) : Calls Tryz.prog 13 #[v] w fun e w' => ∃ A c, e = .returned (.slice A ls.length c) ∧ SlS w' (.slice A ls.length c) ls ∧ Grew w w' := by
  refine (cloneS ls v w h (by omega)).mono ?_
  rintro e w' ⟨v', rfl, ho, g⟩
  obtain ⟨A, c, rfl⟩ := own_slice ho
  exact ⟨A, c, rfl, Rd.of_own ho, g⟩
theorem clV (vs : List Val) (v : Value) (w : World) (h : SlV w v vs) (hb : vs.length ≤ 1025) : Calls Tryz.prog 14 #[v] w fun e w' => ∃ A c, e = .returned (.slice A vs.length c) ∧ SlV w' (.slice A vs.length c) vs ∧ Grew w w' := by
  refine (cloneV vs v w h (by omega)).mono ?_
  rintro e w' ⟨v', rfl, ho, g⟩
  obtain ⟨A, c, rfl⟩ := own_slice ho
  exact ⟨A, c, rfl, Rd.of_own ho, g⟩
theorem lit1S (W : World) (x : ByteArray) : SlS (W.alloc (.cells #[.string x] 9)) (.slice (some ⟨W.heap.size, 0, none⟩) 1 1) [x] := Rd.fresh W 9 1 1 [.string x] rfl (by decide)
end Go.Proofs.YtmbpeniaefpljaaGreatDoor

/- The reference's Effective of layer 28, walked. The condition: the lists are short. -/
namespace Go.Proofs.YtmbpeniaefpljaaGreatDoor
open Go.RowKit

set_option maxHeartbeats 4000000 in
set_option maxRecDepth 100000 in
theorem refEffX (t : Tr) (ls : List ByteArray) (vs : List Val) (u n : Int) (lang : ByteArray) (rv bv lv vv : Value) (w : World) (hr : SlI w rv t.roots) (hv : SlBr w bv t.brs) (hf : FewBr t.brs) (hrl : t.roots.length ≤ 1000000) (hm : ∀ i (h : i < t.brs.length), t.brs[i].mark.size ≤ 9223372036854775807) (hl : SlS w lv ls) (hvv : SlV w vv vs) :
    Calls Tryz.prog 17 #[.agg #[rv, bv], lv, vv, .int .i64 u, .int .i64 n, .string lang] w (RetVE (effR t ls vs u n lang) w) := by
  have kA := fun W (hW : Grew w W) => refAskedI t ls vs u n lang rv bv lv vv W (hr.mono hW) (hv.mono hW) hf hrl hm (hl.mono hW) (hvv.mono hW)
  have KF := Lib.hid (fun (h : askI t ls vs u n lang = 0) W (hW : Grew w W) => refEff t ls vs u n lang rv bv lv vv W (askI_zero.1 h).1.1 (hr.mono hW) (hv.mono hW) (hl.mono hW) (hvv.mono hW) (.inr (askI_zero.1 h).2.1))
  unfold effR
  generalize hN : askI t ls vs u n lang = N at kA KF ⊢
  generalize effF t.brs ls vs u n lang = o at KF ⊢
  have KA := Lib.hid kA
  obtain ⟨Ar, cr, rfl, -⟩ := hr.open_
  obtain ⟨Ab, cb, rfl, -⟩ := hv.open_
  clear kA hr hv hf hrl hm hl hvv hN
  have HB := Lib.hid (show ∀ W, Grew ((w.alloc (.cells [.slice Ar t.roots.length cr, .slice Ab t.brs.length cb].toArray 25)).alloc (.cells [.int .i64 0, .int .i64 0, .string ⟨#[]⟩, .string ⟨#[]⟩].toArray 31)) W → W.heap[w.heap.size]? = some (.cells #[.slice Ar t.roots.length cr, .slice Ab t.brs.length cb] 25 (0, 0)) ∧ W.heap[w.heap.size + 1]? = some (.cells #[.int .i64 0, .int .i64 0, .string ⟨#[]⟩, .string ⟨#[]⟩] 31 (0, 0)) from fun W g => by
    have e1 := heap_newI w (.cells [.slice Ar t.roots.length cr, .slice Ab t.brs.length cb].toArray 25)
    have e2 := heap_newI (w.alloc (.cells [.slice Ar t.roots.length cr, .slice Ab t.brs.length cb].toArray 25)) (.cells [.int .i64 0, .int .i64 0, .string ⟨#[]⟩, .string ⟨#[]⟩].toArray 31)
    rw [World.size_alloc] at e2
    exact ⟨heap_keepI (((Grew.refl _).alloc _).trans g) e1, heap_keepI g e2⟩)
  have GA := Lib.hid (((Grew.refl w).alloc (.cells [.slice Ar t.roots.length cr, .slice Ab t.brs.length cb].toArray 25)).alloc (.cells [.int .i64 0, .int .i64 0, .string ⟨#[]⟩, .string ⟨#[]⟩].toArray 31))
  by_cases hz : N = 0
  · subst hz
    rw [if_pos rfl]
    have kf := KF.out rfl
    unfold RetV at kf
    unfold RetVE
    generalize o.isSome = s at kf ⊢
    generalize o.getD val0 = x at kf ⊢
    obtain ⟨xu, xe, xl, xt⟩ := x
    unfold Val.agg at kf ⊢
    dsimp only at kf ⊢
    have KFX := Lib.hid kf
    clear kf KF
    go_enter Tryz.func17, Tryz.ntmps17
    go_wp2_with fail
    generalize (w.alloc (.cells [.slice Ar t.roots.length cr, .slice Ab t.brs.length cb].toArray 25)).alloc (.cells [.int .i64 0, .int .i64 0, .string ⟨#[]⟩, .string ⟨#[]⟩].toArray 31) = WA at GA HB ⊢
    refine (KA.out _ GA.out).mono ?_
    rintro e w1 ⟨rfl, g1⟩
    have G1 := Lib.hid g1
    have HG1 := Lib.hid (GA.out.trans G1.out)
    clear g1 KA
    obtain ⟨x0, x1⟩ := two_cells (HB.out w1 G1.out).1
    obtain ⟨⟨q0, q1, q2, q3⟩, z0, z1, z2, z3⟩ := four_cells (HB.out w1 G1.out).2
    dsimp only
    go_wp2_with fail
    refine (KFX.out _ HG1.out).mono ?_
    rintro e w2 ⟨rfl, g2⟩
    have G2 := Lib.hid (G1.out.trans (g2.alloc (.cells #[.int .i64 xu, .int .i64 xe, .string xl, .string xt] 31)))
    have HG2 := Lib.hid (GA.out.trans G2.out)
    clear x0 x1 q0 q1 q2 q3 z0 z1 z2 z3 g2
    obtain ⟨⟨q0, q1, q2, q3⟩, z0, z1, z2, z3⟩ := four_cells (HB.out _ G2.out).2
    dsimp only
    go_wp2_with fail
    obtain ⟨p0, p1, p2, p3⟩ := res_four (v0 := .int .i64 xu) (v1 := .int .i64 xe) (v2 := .string xl) (v3 := .string xt) q0 q1 q2 q3
    refine bodyPost_ret (v := .tuple #[.agg #[.int .i64 xu, .int .i64 xe, .string xl, .string xt], .bool s, .int .i64 0]) (by simp [results, Tryz.results17, go_sem, p0, p1, p2, p3]) rfl ?_
    exact ⟨rfl, grew_four HG2.out (by omega) _ _ _ _⟩
  · rw [if_neg hz]
    have hb : (N != 0) = true := by simpa using hz
    clear KF hz
    unfold RetVE
    go_enter Tryz.func17, Tryz.ntmps17
    go_wp2_with fail
    generalize (w.alloc (.cells [.slice Ar t.roots.length cr, .slice Ab t.brs.length cb].toArray 25)).alloc (.cells [.int .i64 0, .int .i64 0, .string ⟨#[]⟩, .string ⟨#[]⟩].toArray 31) = WA at GA HB ⊢
    refine (KA.out _ GA.out).mono ?_
    rintro e w1 ⟨rfl, g1⟩
    have G1 := Lib.hid g1
    have HG1 := Lib.hid (GA.out.trans G1.out)
    clear g1 KA
    obtain ⟨x0, x1⟩ := two_cells (HB.out w1 G1.out).1
    obtain ⟨⟨q0, q1, q2, q3⟩, z0, z1, z2, z3⟩ := four_cells (HB.out w1 G1.out).2
    dsimp only
    go_wp2_with fail
    obtain ⟨p0, p1, p2, p3⟩ := res_four (v0 := .int .i64 0) (v1 := .int .i64 0) (v2 := .string ⟨#[]⟩) (v3 := .string ⟨#[]⟩) q0 q1 q2 q3
    refine bodyPost_ret (v := .tuple #[.agg #[.int .i64 0, .int .i64 0, .string ⟨#[]⟩, .string ⟨#[]⟩], .bool false, .int .i64 N]) (by simp [results, Tryz.results17, go_sem, p0, p1, p2, p3]) rfl ?_
    exact ⟨rfl, grew_four HG1.out (by omega) _ _ _ _⟩
end Go.Proofs.YtmbpeniaefpljaaGreatDoor

/- The law InheritWanted, plainly. No condition. -/
namespace Go.Proofs.YtmbpeniaefpljaaGreatDoor
open Go.RowKit

theorem lang_of_langs {ls : List ByteArray} (h : langsF ls = 0) {s : ByteArray} (hs : s ∈ ls) : isLangF s.data.toList = true := by
  unfold langsF at h
  split at h
  · cases h
  · split at h
    · cases h
    · split at h
      · cases h
      · rename_i h3
        cases hb : isLangF s.data.toList with
        | true => rfl
        | false => exact absurd (List.any_eq_true.2 ⟨s, hs, by simp [hb]⟩) h3
theorem langs_pos {ls : List ByteArray} (h : langsF ls = 0) : 0 < ls.length := (langs_ok h).1
theorem head_mem {ls : List ByteArray} (h : 0 < ls.length) : ls.headD ⟨#[]⟩ ∈ ls := by
  cases ls with
  | nil => cases h
  | cons a r => simp
section
variable {t : Tr} {ls : List ByteArray} {vs : List Val} {u n : Int} {wt : ByteArray} (h : askI t ls vs u n wt = 0)
include h
theorem wa_eff : effR t ls vs u n wt = (effF t.brs ls vs u n wt, 0) := by
  unfold effR
  rw [if_pos h]
theorem wa_found : foundR t ls vs u n wt = (foundF t.brs vs u n wt, 0) := by
  unfold foundR
  rw [if_pos h]
theorem wa_each {s : ByteArray} (hs : s ∈ ls) : foundR t ls vs u n s = (foundF t.brs vs u n s, 0) := by
  obtain ⟨h1, h2, h3, h4⟩ := askI_zero.1 h
  unfold foundR
  rw [if_pos (askI_zero.2 ⟨h1, h2, h3, lang_of_langs h1.2.1 hs⟩)]
theorem wa_gaps : gapsR t ls vs n = (gapsF t ls vs n (ls.headD ⟨#[]⟩), 0) := by
  obtain ⟨h1, h2, h3, h4⟩ := askI_zero.1 h
  unfold gapsR
  rw [if_neg (by rw [ofI_zero.2 h1]; decide), if_neg (by rw [numI_zero.2 h3]; decide)]
theorem wa_own {x : Val} (hx : foundF t.brs vs u n wt = some x) : effF t.brs ls vs u n wt = some x := by
  obtain ⟨h1, h2, h3, h4⟩ := askI_zero.1 h
  exact eff_wanted h1.2 h4 hx
theorem wa_some : (ls.any fun s => (foundF t.brs vs u n s).isSome) = (effF t.brs ls vs u n wt).isSome := by
  obtain ⟨h1, h2, h3, h4⟩ := askI_zero.1 h
  cases he : effF t.brs ls vs u n wt with
  | none =>
    have := (eff_none h1.2.1 h4).1 he
    rw [Option.isSome_none, List.any_eq_false]
    intro s hs
    rw [this s hs]
    decide
  | some x =>
    rw [Option.isSome_some]
    cases ha : (ls.any fun s => (foundF t.brs vs u n s).isSome) with
    | true => rfl
    | false =>
      rw [List.any_eq_false] at ha
      have := (eff_none (vs := vs) (l := t.brs) (u := u) (n := n) h1.2.1 h4).2 (fun s hs => by
        have := ha s hs
        cases hf : foundF t.brs vs u n s with
        | none => rfl
        | some y => rw [hf] at this; exact absurd rfl this)
      rw [this] at he
      cases he
theorem wa_gap : ((gapsF t ls vs n (ls.headD ⟨#[]⟩)).any fun y => (u == y)) = !(effF t.brs ls vs u n wt).isSome := by
  obtain ⟨h1, ⟨b, hb⟩, h3, h4⟩ := askI_zero.1 h
  have hh := lang_of_langs h1.2.1 (head_mem (langs_pos h1.2.1))
  have hin := find_in hb
  have hm : u ∈ belowT t 0 := (all_mem_iff (right_sound h1.1) u).2 ⟨b, hin.1, hin.2⟩
  have he : (effF t.brs ls vs u n (ls.headD ⟨#[]⟩)).isNone = !(effF t.brs ls vs u n wt).isSome := by
    have k1 := eff_none (vs := vs) (l := t.brs) (u := u) (n := n) h1.2.1 h4
    have k2 := eff_none (vs := vs) (l := t.brs) (u := u) (n := n) h1.2.1 hh
    cases e1 : effF t.brs ls vs u n wt with
    | none => rw [k2.2 (k1.1 e1)]; rfl
    | some x =>
      cases e2 : effF t.brs ls vs u n (ls.headD ⟨#[]⟩) with
      | none => rw [k1.2 (k2.1 e2)] at e1; cases e1
      | some y => rfl
  rw [← he]
  unfold gapsF
  cases hq : (effF t.brs ls vs u n (ls.headD ⟨#[]⟩)).isNone with
  | true => exact List.any_eq_true.2 ⟨u, List.mem_filter.2 ⟨hm, hq⟩, by simp⟩
  | false =>
    rw [List.any_eq_false]
    intro y hy e
    have : u = y := by simpa using e
    subst this
    rw [(List.mem_filter.1 hy).2] at hq
    cases hq
end
end Go.Proofs.YtmbpeniaefpljaaGreatDoor

/- What the laws of layer 28 share: lists behind a cut. No condition. -/
namespace Go.Proofs.YtmbpeniaefpljaaGreatDoor
open Go.RowKit

theorem lisC {W0 wx : World} {A : Option Addr} {c : Nat} {l : List Int} {n : Int} (h : SlI wx (.slice A l.length c) l) (g : Grew W0 wx) : LisCut W0 l n (.slice A l.length c) (.int .i64 n) wx := ⟨⟨A, c, rfl⟩, rfl, h, g⟩
theorem lvsC {W0 wx : World} {A : Option Addr} {c : Nat} {l : List Val} {n : Int} (h : SlV wx (.slice A l.length c) l) (g : Grew W0 wx) : LvsCut W0 l n (.slice A l.length c) (.int .i64 n) wx := ⟨⟨A, c, rfl⟩, rfl, h, g⟩
theorem eff_two {t : Tr} {ls : List ByteArray} {vs : List Val} {u n : Int} {wt : ByteArray} : (effR t ls vs u n wt).2 = askI t ls vs u n wt ∧ (askI t ls vs u n wt ≠ 0 → (effR t ls vs u n wt).1 = none) := by
  unfold effR
  split
  · rename_i h
    exact ⟨h.symm, fun k => absurd h k⟩
  · exact ⟨rfl, fun _ => rfl⟩
theorem take_any {α : Type} (l : List α) (f : α → Bool) (k : Nat) (h : k < l.length) : (l.take (k + 1)).any f = ((l.take k).any f || f l[k]) := by
  rw [List.take_succ_eq_append_getElem h, List.any_append]
  simp
end Go.Proofs.YtmbpeniaefpljaaGreatDoor

/- The reference's All of layer 28, walked. The condition: the lists are short. -/
namespace Go.Proofs.YtmbpeniaefpljaaGreatDoor
open Go.RowKit

set_option maxHeartbeats 4000000 in
set_option maxRecDepth 100000 in
theorem refAllX (t : Tr) (ls : List ByteArray) (vs : List Val) (u : Int) (lang : ByteArray) (rv bv lv vv : Value) (w : World) (hr : SlI w rv t.roots) (hv : SlBr w bv t.brs) (hf : FewBr t.brs) (hrl : t.roots.length ≤ 1000000) (hm : ∀ i (h : i < t.brs.length), t.brs[i].mark.size ≤ 9223372036854775807) (hl : SlS w lv ls) (hvv : SlV w vv vs) :
    Calls Tryz.prog 19 #[.agg #[rv, bv], lv, vv, .int .i64 u, .string lang] w (RetVL (allR t ls vs u lang) w) := by
  have kA := fun W (hW : Grew w W) => refAskedI t ls vs u 1 lang rv bv lv vv W (hr.mono hW) (hv.mono hW) hf hrl hm (hl.mono hW) (hvv.mono hW)
  have kF := fun (h : askI t ls vs u 1 lang = 0) n W (hW : Grew w W) => refEff t ls vs u n lang rv bv lv vv W (askI_zero.1 h).1.1 (hr.mono hW) (hv.mono hW) (hl.mono hW) (hvv.mono hW) (.inr (askI_zero.1 h).2.1)
  have hall : allF t ls vs u lang = effsF (fun n => effF t.brs ls vs u n lang) 8 := rfl
  unfold allR
  rw [hall]
  obtain ⟨EF, hEF⟩ : ∃ EF : Int → Option Val, EF = fun n => effF t.brs ls vs u n lang := ⟨_, rfl⟩
  have kF2 := fun h n W hW => (show Calls Tryz.prog 52 #[.agg #[rv, bv], lv, vv, .int .i64 u, .int .i64 n, .string lang] W (RetV (EF n) W) by rw [hEF]; exact kF h n W hW)
  rw [← hEF]
  have KF := Lib.hid kF2
  clear kF kF2 hall hEF
  generalize askI t ls vs u 1 lang = N at kA KF ⊢
  have KA := Lib.hid kA
  obtain ⟨Ar0, cr0, rfl, -⟩ := hr.open_
  obtain ⟨Ab0, cb0, rfl, -⟩ := hv.open_
  clear kA hr hv hf hrl hm hl hvv
  have HB := Lib.hid (show ∀ W, Grew (w.alloc (.cells #[.slice Ar0 t.roots.length cr0, .slice Ab0 t.brs.length cb0] 25)) W → W.heap[w.heap.size]? = some (.cells #[.slice Ar0 t.roots.length cr0, .slice Ab0 t.brs.length cb0] 25 (0, 0)) from fun W g => heap_keepI g (heap_newI w _))
  have GA := Lib.hid ((Grew.refl w).alloc (.cells #[.slice Ar0 t.roots.length cr0, .slice Ab0 t.brs.length cb0] 25))
  by_cases hz : N = 0
  · subst hz
    rw [if_pos rfl]
    obtain ⟨i0, hi, hz0, hz1, hz2⟩ := info_parts cinfoV
    unfold RetVL
    dsimp only
    go_enter Tryz.func19, Tryz.ntmps19
    go_wp2_with fail
    generalize w.alloc (.cells #[.slice Ar0 t.roots.length cr0, .slice Ab0 t.brs.length cb0] 25) = WA at GA HB ⊢
    refine (KA.out _ GA.out).mono ?_
    rintro e w5 ⟨rfl, g5⟩
    have G5 := Lib.hid g5
    have G15 := Lib.hid (GA.out.trans g5)
    have HK := Lib.hid (fun n W (hW : Grew w W) => KF.out (by first | rfl | trivial) n W hW)
    clear g5 KF KA
    dsimp only
    go_wp2_with fail
    go_loopg [13, 14] 8 (fun gg s13 s14 wr => ∃ k : Nat, k ≤ 8 ∧ 8 - k ≤ gg ∧ s14 = .int .i64 ((k : Int) + 1) ∧ Aside (wr.ownsRow w5.heap.size 31 4 s13 (effsF EF k).length ((effsF EF k).flatMap Val.cells)) ∧ Aside (Grew w5 wr))
    case atStart => exact ⟨0, by omega, by omega, by simp, (show Aside _ from World.ownsRow_nil _ _ _ _), (show Aside _ from Grew.refl _)⟩
    case round =>
      obtain ⟨k, hk, hgk, rfl, OW, GW⟩ := hrel
      by_cases hlt : k < 8
      · have hltz : (k : Int) + 1 ≤ 8 := by omega
        have HG := Lib.hid (G15.out.trans GW.out)
        obtain ⟨x0, x1⟩ := two_cells (HB.out _ (G5.out.trans GW.out))
        have hlen := effsF_len EF k
        have kf := HK.out ((k : Int) + 1) wr HG.out
        unfold RetV at kf
        cases hq : EF ((k : Int) + 1) with
        | some x =>
          have HN := Lib.hid (effsF_some hq)
          rw [hq] at kf
          obtain ⟨xu, xe, xl, xt⟩ := x
          unfold Val.agg at kf
          dsimp only [Option.getD_some, Option.isSome_some] at kf
          have KFX := Lib.hid kf
          clear kf hq
          go_wp2_with fail
          refine KFX.out.mono ?_
          rintro e w6 ⟨rfl, g6⟩
          have gz := g6.alloc (.cells #[.int .i64 xu, .int .i64 xe, .string xl, .string xt] 31)
          have G6 := Lib.hid (GW.out.trans gz)
          have OW6 := Lib.hid (own_keep OW.out gz)
          clear x0 x1 g6 gz KFX
          dsimp only
          go_wp2_with (at_builtin; refine appR rfl _ _ 27 rfl w5 31 i0 (.agg #[.int .i64 0, .int .i64 0, .string ⟨#[]⟩, .string ⟨#[]⟩]) 4 48 Tryz.underlying27 hi hz0 hz1 hz2 rfl (by omega) _ _ _ (by rfl) _ (own_keep OW6.out ((Grew.refl _).alloc _)) (G6.out.alloc _) _ 1 [.int .i64 xu, .int .i64 xe, .string xl, .string xt] (by rfl) (rd_lit _ rfl _ (by simp)) rfl (by simp [Value.oneCell']) (by unfold maxLen; omega) (by omega) ?_; intro v8 w8 hown8 hg8 _)
          have OW8 : Aside _ := hown8
          have G8 : Aside _ := hg8
          clear hown8 hg8
          go_wp2
          go_roundg (8 - (k + 1))
          case measure => omega
          case rel =>
            refine ⟨k + 1, by omega, by omega, by go_num, (show Aside _ from ?_), (show Aside _ from ?_)⟩
            · rw [HN.out, List.flatMap_append, List.length_append]
              exact OW8.out
            · exact G8.out
        | none =>
          have HN := Lib.hid (effsF_none hq)
          rw [hq] at kf
          unfold Val.agg val0 at kf
          dsimp only [Option.getD_none, Option.isSome_none] at kf
          have KFX := Lib.hid kf
          clear kf hq
          go_wp2_with fail
          refine KFX.out.mono ?_
          rintro e w6 ⟨rfl, g6⟩
          have gz := g6.alloc (.cells #[.int .i64 0, .int .i64 0, .string ⟨#[]⟩, .string ⟨#[]⟩] 31)
          have G6 := Lib.hid (GW.out.trans gz)
          have OW6 := Lib.hid (own_keep OW.out gz)
          clear x0 x1 g6 gz KFX
          dsimp only
          go_wp2
          go_roundg (8 - (k + 1))
          case measure => omega
          case rel => exact ⟨k + 1, by omega, by omega, by go_num, (show Aside _ by rw [HN.out]; exact OW6.out), (show Aside _ from G6.out)⟩
      · have hltz : ¬ (k : Int) + 1 ≤ 8 := by omega
        obtain rfl : k = 8 := by omega
        have HG := Lib.hid (G15.out.trans GW.out)
        go_wp2
        go_ret2
        exact ⟨_, rfl, own_base OW.out G15.out.size, HG.out⟩
  · rw [if_neg hz]
    have hb : (N != 0) = true := by simpa using hz
    clear KF hz
    unfold RetVL
    go_enter Tryz.func19, Tryz.ntmps19
    go_wp2_with fail
    generalize w.alloc (.cells #[.slice Ar0 t.roots.length cr0, .slice Ab0 t.brs.length cb0] 25) = WA at GA HB ⊢
    refine (KA.out _ GA.out).mono ?_
    rintro e w5 ⟨rfl, g5⟩
    have G5 := Lib.hid (GA.out.trans g5)
    clear g5 KA
    dsimp only
    go_wp2_with fail
    go_ret2
    exact ⟨_, rfl, World.ownsRow_nil _ _ _ _, G5.out⟩
end Go.Proofs.YtmbpeniaefpljaaGreatDoor

/- A set of numbers that is kept in a map: what it has, and what a range over it collects. No condition. -/
namespace Go.Proofs.YtmbpeniaefpljaaGreatDoor
open Go.RowKit Go.Maps

/-- The set of some numbers, as a map to true. -/
def setInts (ks : List Int) : DataW Unit := setOf (.lit (.bool true)) (ks.map fun n => .int .i64 n)
theorem has_setInts (ks : List Int) (n : Int) : has (setInts ks) (.int .i64 n) = true ↔ n ∈ ks := by
  unfold setInts
  rw [has_setOf _ _ _ (fun x hx => by
    obtain ⟨m, _, rfl⟩ := List.mem_map.1 hx
    trivial), List.any_eq_true]
  constructor
  · rintro ⟨x, hx, hs⟩
    obtain ⟨m, hm, rfl⟩ := List.mem_map.1 hx
    simp [Lit.sameKey] at hs
    exact hs ▸ hm
  · intro h
    exact ⟨_, List.mem_map.2 ⟨n, h, rfl⟩, by simp [Lit.sameKey]⟩
/-- What has come of a range over a map keyed by numbers. -/
def CollI (D0 : DataW Unit) (left : Lit → Bool) (ks : List Int) : Prop := ks.Nodup ∧ ∀ x, x ∈ ks ↔ (has D0 (.int .i64 x) = true ∧ left (.int .i64 x) = false)
theorem CollI.start (D0 : DataW Unit) : CollI D0 (has D0) [] := ⟨List.nodup_nil, fun x => by cases has D0 (.int .i64 x) <;> simp⟩
theorem CollI.step {D0 : DataW Unit} {left : Lit → Bool} {ks : List Int} (h : CollI D0 left ks) {x : Int} {y : DataW Unit} (hlk : left (.int .i64 x) = true) (hat : ∀ zd, D0.atKey (.int .i64 x) zd = y) : CollI D0 (fun z => left z && !z.sameKey (.int .i64 x)) (ks ++ [x]) := by
  have hhas : has D0 (.int .i64 x) = true := has_true_of_atKey hat
  have hnew : x ∉ ks := fun hx => by have := ((h.2 x).1 hx).2; rw [hlk] at this; cases this
  refine ⟨List.nodup_append.2 ⟨h.1, by simp, fun a ha b hb => by simp at hb; subst hb; exact fun e => hnew (e ▸ ha)⟩, fun y => ?_⟩
  by_cases hy : y = x
  · subst hy; simp [hhas, Lit.sameKey]
  · simp [h.2 y, hy, Lit.sameKey]
theorem CollI.done {ks0 : List Int} {left : Lit → Bool} {ks : List Int} (h : CollI (setInts ks0) left ks) (hl : ∀ kl, left kl = false) : ks.Nodup ∧ ∀ n, n ∈ ks ↔ n ∈ ks0 :=
  ⟨h.1, fun n => by rw [h.2 n, has_setInts]; simp [hl]⟩
end Go.Proofs.YtmbpeniaefpljaaGreatDoor

/- tree.Path on a right tree, walked. The conditions: the library's own variables hold what they must; the lists are short. -/
namespace Go.Proofs.YtmbpeniaefpljaaGreatDoor
open Go.RowKit

def pathR (l : List Br) (id : Int) : List Int × Int := match brFind l id with
  | none => ([], 7)
  | some b => (pathF l b, 0)
set_option maxHeartbeats 2000000 in
theorem tPath (rs : List Int) (l : List Br) (id : Int) (rv bv : Value) (w : World) (hE : Env w) (hr : SlI w rv rs) (hv : SlBr w bv l) (hf : FewBr l) (hrl : rs.length ≤ 1000000) (hT : RightT ⟨rs, l⟩) :
    Calls Tryz.prog 35 #[.agg #[rv, bv], .int .i64 id] w fun e w' => ∃ v, e = .returned (.tuple #[v, .int .i64 (pathR l id).2]) ∧ SlI w' v (pathR l id).1 ∧ Grew w w' := by
  have hK := fun W kv (hW : Grew w W) (hk : SlI W kv [id]) => tKnown rs l [id] rv bv kv W (hE.mono hW) (hr.mono hW) (hv.mono hW) hk hf hrl hT
  have hfr : ∀ W : World, SlI (W.alloc (.cells #[.int .i64 id] 3)) (.slice (some ⟨W.heap.size, 0, none⟩) 1 1) [id] := fun W => Rd.fresh W _ 1 1 [.int .i64 id] rfl (by decide)
  have HFR := Lib.hid hfr
  clear hfr
  cases ho : brFind l id with
  | none =>
    have hp : pathR l id = ([], 7) := by simp [pathR, ho]
    have hkn : knownF l [id] = 7 := by simp [knownF, ho]
    rw [hp]
    rw [hkn] at hK
    have KK := Lib.hid hK
    clear hK hp hkn ho hE hr hv hf hrl hT
    dsimp only
    go_enter Tryz.func35, Tryz.ntmps35
    go_wp2_with fail
    refine (KK.out _ _ (((Grew.refl w).alloc _).alloc _) (by have := HFR.out (w.alloc (.cells #[rv, bv] 25)); simpa using this)).mono ?_
    rintro e w1 ⟨rfl, g1⟩
    dsimp only
    go_wp2
    go_ret2
    exact ⟨_, rfl, SlI.nil _, (((Grew.refl w).alloc _).alloc _).trans g1⟩
  | some b =>
    have hp : pathR l id = (pathF l b, 0) := by simp [pathR, ho]
    have hkn : knownF l [id] = 0 := by simp [knownF, ho]
    obtain ⟨hbm, hbi⟩ := find_mem ho
    have hPI := fun W (hW : Grew w W) => tPathIn rs l b rv bv W (hr.mono hW) (hv.mono hW) hf hT hbm
    rw [hp]
    rw [hkn] at hK
    rw [hbi] at hPI
    have KK := Lib.hid hK
    have KP := Lib.hid hPI
    generalize pathF l b = U at KP
    clear hK hPI hp hkn ho hE hr hv hf hrl hT hbm hbi
    dsimp only
    go_enter Tryz.func35, Tryz.ntmps35
    go_wp2_with fail
    refine (KK.out _ _ (((Grew.refl w).alloc _).alloc _) (by have := HFR.out (w.alloc (.cells #[rv, bv] 25)); simpa using this)).mono ?_
    rintro e w1 ⟨rfl, g1⟩
    have G1 : Grew (w.alloc (.cells [rv, bv].toArray 25)) w1 := ((Grew.refl _).alloc _).trans g1
    have b0 := new_cell G1 0 _ rfl
    have b1 := new_cell G1 1 _ rfl
    have HW1 := Lib.hid (((Grew.refl w).alloc _).trans G1)
    clear g1 G1
    dsimp only
    go_wp2_with fail
    refine (KP.out _ HW1.out).mono ?_
    rintro e w2 ⟨v2, rfl, hs2, g2⟩
    have HS2 := Lib.hid hs2
    clear hs2
    dsimp only
    go_wp2
    go_ret2
    exact ⟨_, rfl, HS2.out, HW1.out.trans g2⟩
end Go.Proofs.YtmbpeniaefpljaaGreatDoor
