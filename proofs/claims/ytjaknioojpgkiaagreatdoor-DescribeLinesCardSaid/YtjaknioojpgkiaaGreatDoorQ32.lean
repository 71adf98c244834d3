/- Lemmas on what the functions of the program and of the library compute: R3, Lfi, Lim, PlainWa, Lim2, Lfd, PlainWb, J7, CompI. The conditions stand at each. -/
import Derived.Test.YtjaknioojpgkiaaGreatDoorQ16
import Derived.Test.YtjaknioojpgkiaaGreatDoorQ31
import Derived.Test.YtjaknioojpgkiaaGreatDoorQ8
import Derived.Test.YtjaknioojpgkiaaGreatDoorQ11
import Derived.Test.YtjaknioojpgkiaaGreatDoorQ27
import Derived.Test.YtjaknioojpgkiaaGreatDoorQ28
import Derived.Test.YtjaknioojpgkiaaGreatDoorQ10
import Derived.Test.YtjaknioojpgkiaaGreatDoorQ18
import Derived.Test.YtjaknioojpgkiaaGreatDoorQ29
import Derived.Test.YtjaknioojpgkiaaGreatDoorQ3
import Derived.Test.YtjaknioojpgkiaaGreatDoorQ26
import Derived.Test.YtjaknioojpgkiaaGreatDoorQ4
/- The reference implementation's bound on sizes, walked: where it says yes, the lists are short. No condition. -/
namespace Go.Proofs.YtjaknioojpgkiaaGreatDoor
open Go.RowKit

/-- How the bound ends: no, or yes and short. -/
def FewEnd (w : World) (n m : Nat) (e : Ending) (w' : World) : Prop := (e = .returned (.bool false) ∨ (e = .returned (.bool true) ∧ n ≤ 10 ∧ m ≤ 1025)) ∧ w = w'
set_option maxHeartbeats 4000000 in
theorem few_any (l : List ByteArray) (vs : List Val) (lv vv : Value) (w : World) (hl : SlS w lv l) (hv : SlV w vv vs) :
    Calls Tryz.prog 12 #[lv, vv] w fun e w' => FewEnd w l.length vs.length e w' := by
  obtain ⟨A, c, rfl, hlc, hc, hr⟩ := hl.open_
  obtain ⟨A', c', rfl, hlc', hc', hr'⟩ := hv.open_
  unfold maxLen at hc hc'
  have HR := Lib.hid hr
  have HR' := Lib.hid hr'
  clear hr hr' hl hv
  go_enter Tryz.func12, Tryz.ntmps12
  go_wp2
  go_loop [5] (fun i => ∃ k : Nat, k ≤ l.length ∧ i = .int .i64 k) (fun i => l.length - (intOf i).toNat)
  case atStart => exact ⟨0, by omega, rfl⟩
  case round =>
    obtain ⟨k, hk, rfl⟩ := hrel
    by_cases hlt : k < l.length
    · have hltz : (k : Int) < (l.length : Int) := by omega
      have h0z : (0 : Int) ≤ (k : Int) := by omega
      obtain ⟨b, off, rfl, hb, hcell⟩ := HR.out (by omega)
      have hcl := hcell w (Grew.refl w) k hlt
      generalize l[k] = y at hcl
      clear hcell
      by_cases hs : 20 < y.size
      · have hsz : (20 : Int) < (y.size : Int) := by omega
        go_wp2
        go_ret
        exact ⟨Or.inl rfl, rfl⟩
      · have hsz : decide ((20 : Int) < (y.size : Int)) = false := by simp; omega
        go_wp2
        go_round
        case rel => exact ⟨k + 1, by omega, by go_num⟩
        case measure => simp [intOf]; omega
    · have hltz : ¬ (k : Int) < (l.length : Int) := by omega
      go_wp2
      go_loop [6] (fun i => ∃ m : Nat, m ≤ vs.length ∧ i = .int .i64 m) (fun i => vs.length - (intOf i).toNat)
      case atStart => exact ⟨0, by omega, rfl⟩
      case round =>
        obtain ⟨m, hm, rfl⟩ := hrel
        by_cases hlm : m < vs.length
        · have hlmz : (m : Int) < (vs.length : Int) := by omega
          have h0m : (0 : Int) ≤ (m : Int) := by omega
          obtain ⟨b, off, rfl, hb, hcell⟩ := HR'.out (by omega)
          obtain ⟨-, -, c2, c3⟩ := hcell w (Grew.refl w) m hlm
          generalize vs[m].lang = yl at c2
          generalize vs[m].text = yt at c3
          clear hcell
          cases a1 : decide ((300 : Int) < (yt.size : Int)) <;> cases a2 : ((yt.size : Int) == 4096) <;> cases a3 : ((yt.size : Int) == 4097) <;> cases a4 : decide ((20 : Int) < (yl.size : Int))
          all_goals go_wp2
          all_goals first | (go_ret; exact ⟨Or.inl rfl, rfl⟩) | (go_round; (case rel => exact ⟨m + 1, by omega, by go_num⟩); (case measure => simp [intOf]; omega))
        · have hlmz : ¬ (m : Int) < (vs.length : Int) := by omega
          cases a1 : decide ((l.length : Int) ≤ 10) <;> cases a2 : decide ((vs.length : Int) ≤ 30) <;> cases a3 : ((vs.length : Int) == 1025)
          all_goals go_wp2
          all_goals go_ret
          all_goals refine ⟨?_, rfl⟩
          all_goals first | exact Or.inl rfl | exact Or.inr ⟨rfl, by simp at a1 a2 a3; omega, by simp at a1 a2 a3; omega⟩
end Go.Proofs.YtjaknioojpgkiaaGreatDoor

/- The bound on sizes of layer 28, walked: where it says yes, the lists are short. No condition. -/
namespace Go.Proofs.YtjaknioojpgkiaaGreatDoor
open Go.RowKit

def FewI (t : Tr) (ls : List ByteArray) (vs : List Val) : Prop := FewTM t.roots t.brs ∧ ls.length ≤ 10 ∧ vs.length ≤ 1025
end Go.Proofs.YtjaknioojpgkiaaGreatDoor

/- What the laws of layer 28 share. No condition. -/
namespace Go.Proofs.YtjaknioojpgkiaaGreatDoor
open Go.RowKit

/-- Behind `l, e := Reach(..)`. -/
def LisCut (W0 : World) (l : List Int) (n : Int) (s1 s2 : Value) (wx : World) : Prop := (∃ A c, s1 = .slice A l.length c) ∧ s2 = .int .i64 n ∧ Aside (SlI wx s1 l) ∧ Aside (Grew W0 wx)
def LvsCut (W0 : World) (l : List Val) (n : Int) (s1 s2 : Value) (wx : World) : Prop := (∃ A c, s1 = .slice A l.length c) ∧ s2 = .int .i64 n ∧ Aside (SlV wx s1 l) ∧ Aside (Grew W0 wx)
theorem heldI (w1 W : World) {p q : Addr} {x y : Value} (h : w1.cell? p = some x) (h2 : w1.cell? q = some y) (g : Grew w1 W) : W.cell? p = some x ∧ W.cell? q = some y ∧ Grew w1 W := ⟨keep_cell g h, keep_cell g h2, g⟩
theorem clS (ls : List ByteArray) (v : Value) (w : World) (h : SlS w v ls) (hb : ls.length ≤ 10) : Calls Tryz.prog 14 #[v] w fun e w' => ∃ A c, e = .returned (.slice A ls.length c) ∧ SlS w' (.slice A ls.length c) ls ∧ Grew w w' := by
  refine (cloneS ls v w h (by omega)).mono ?_
  rintro e w' ⟨v', rfl, ho, g⟩
  obtain ⟨A, c, rfl⟩ := own_slice ho
  exact ⟨A, c, rfl, Rd.of_own ho, g⟩
theorem clV (vs : List Val) (v : Value) (w : World) (h : SlV w v vs) (hb : vs.length ≤ 1025) : Calls Tryz.prog 15 #[v] w fun e w' => ∃ A c, e = .returned (.slice A vs.length c) ∧ SlV w' (.slice A vs.length c) vs ∧ Grew w w' := by
  refine (cloneV vs v w h (by omega)).mono ?_
  rintro e w' ⟨v', rfl, ho, g⟩
  obtain ⟨A, c, rfl⟩ := own_slice ho
  exact ⟨A, c, rfl, Rd.of_own ho, g⟩
theorem lit1S (W : World) (x : ByteArray) : SlS (W.alloc (.cells #[.string x] 9)) (.slice (some ⟨W.heap.size, 0, none⟩) 1 1) [x] := Rd.fresh W 9 1 1 [.string x] rfl (by decide)
end Go.Proofs.YtjaknioojpgkiaaGreatDoor

/- The law InheritWanted, plainly. No condition. -/
namespace Go.Proofs.YtjaknioojpgkiaaGreatDoor
open Go.RowKit

theorem lang_of_langs {ls : List ByteArray} (h : langsF ls = 0) {s : ByteArray} (hs : s ∈ ls) : isLangF s.data.toList = true := by
  unfold langsF at h
  split at h
  · cases h
  · split at h
    · cases h
    · split at h
      · cases h
      · rename_i h3
        cases hb : isLangF s.data.toList with
        | true => rfl
        | false => exact absurd (List.any_eq_true.2 ⟨s, hs, by simp [hb]⟩) h3
section
variable {t : Tr} {ls : List ByteArray} {vs : List Val} {u n : Int} {wt : ByteArray} (h : askI t ls vs u n wt = 0)
include h
end
end Go.Proofs.YtjaknioojpgkiaaGreatDoor

/- What the laws of layer 28 share: lists behind a cut. No condition. -/
namespace Go.Proofs.YtjaknioojpgkiaaGreatDoor
open Go.RowKit

theorem lisC {W0 wx : World} {A : Option Addr} {c : Nat} {l : List Int} {n : Int} (h : SlI wx (.slice A l.length c) l) (g : Grew W0 wx) : LisCut W0 l n (.slice A l.length c) (.int .i64 n) wx := ⟨⟨A, c, rfl⟩, rfl, h, g⟩
theorem lvsC {W0 wx : World} {A : Option Addr} {c : Nat} {l : List Val} {n : Int} (h : SlV wx (.slice A l.length c) l) (g : Grew W0 wx) : LvsCut W0 l n (.slice A l.length c) (.int .i64 n) wx := ⟨⟨A, c, rfl⟩, rfl, h, g⟩
end Go.Proofs.YtjaknioojpgkiaaGreatDoor

/- The bound on sizes of layer 29, walked: where it says yes, the lists are short. No condition. -/
namespace Go.Proofs.YtjaknioojpgkiaaGreatDoor
open Go.RowKit

theorem few29_1 (s : ByteArray) (w : World) : Calls Tryz.prog 51 #[.string s] w fun e w' => e = .returned (.bool (decide (20 < (s.size : Int)))) ∧ Grew w w' := by
  go_enter Tryz.func51, Tryz.ntmps51
  go_wp2
  go_ret
  exact ⟨rfl, Grew.refl w⟩
theorem enters_few29 : ∀ args w, (callFunc 51 args).run Tryz.prog w = .ok (.enter 51 args) w := enters_of Tryz.func51 (by kernel_rfl) rfl
set_option maxHeartbeats 2000000 in
theorem fewLawD (t : Tr) (ls : List ByteArray) (vs : List Val) (ms : List ByteArray) (rv bv lv vv mv : Value) (w : World) (hr : SlI w rv t.roots) (hv : SlBr w bv t.brs) (hl : SlS w lv ls) (hvv : SlV w vv vs) (hm : SlS w mv ms) :
    Calls Tryz.prog 11 #[.agg #[rv, bv], lv, vv, mv] w (YesIf (FewI t ls vs) w) := by
  have KT := Lib.hid (fun W (hW : Grew w W) => few19_m t.roots t.brs rv bv W (hr.mono hW) (hv.mono hW))
  have KL := Lib.hid (fun W (hW : Grew w W) => few_any ls vs lv vv W (hl.mono hW) (hvv.mono hW))
  have KM := Lib.hid (fun W (hW : Grew w W) => containsFuncS ms (fun s => decide (20 < (s.size : Int))) _ #[] enters_few29 mv W (hm.mono hW) (fun W2 x _ _ => by rw [show (#[Value.string x] ++ #[] : Array Value) = #[.string x] by simp]; exact few29_1 x W2))
  obtain ⟨Ar, cr, rfl, -⟩ := hr.open_
  obtain ⟨Ab, cb, rfl, -⟩ := hv.open_
  have HFI := Lib.hid (show FewTM t.roots t.brs → ls.length ≤ 10 → vs.length ≤ 1025 → FewI t ls vs from fun a b c => ⟨a, b, c⟩)
  generalize FewI t ls vs = FI at HFI ⊢
  generalize (ms.any fun s => decide (20 < (s.size : Int))) = m at KM
  clear hr hv hl hvv hm
  go_enter Tryz.func11, Tryz.ntmps11
  go_wp2_with fail
  refine (KT.out _ ((Grew.refl w).alloc _)).mono ?_
  rintro e w1 ⟨q, rfl, hq, g1⟩
  have HQ := Lib.hid hq
  have HG1 := Lib.hid (((Grew.refl w).alloc _).trans g1)
  clear hq g1 KT
  dsimp only
  cases q with
  | false =>
    go_wp2
    go_ret
    exact YesIf.no HG1.out
  | true =>
    go_wp2_with fail
    refine (KL.out _ HG1.out).mono ?_
    rintro e w2 ⟨h2, rfl⟩
    rcases h2 with rfl | ⟨rfl, h3, h4⟩
    · dsimp only
      go_wp2
      go_ret
      exact YesIf.no HG1.out
    · have HF := Lib.hid (HFI.out (HQ.out (by first | rfl | trivial)) h3 h4)
      clear h3 h4 HQ HFI
      dsimp only
      go_wp2_with fail
      refine (KM.out _ HG1.out).mono ?_
      rintro e w3 ⟨rfl, g3⟩
      have HG3 := Lib.hid (HG1.out.trans g3)
      clear g3 KM
      dsimp only
      cases m with
      | true =>
        go_wp2
        go_ret
        exact YesIf.no HG3.out
      | false =>
        go_wp2
        go_ret
        exact YesIf.yes HF.out HG3.out
end Go.Proofs.YtjaknioojpgkiaaGreatDoor

/- The laws InheritWithout and InheritConnected, plainly. No condition. -/
namespace Go.Proofs.YtjaknioojpgkiaaGreatDoor
open Go.RowKit

theorem red_get {t : Tr} {vs : List Val} {x : Int} (hx : x ∈ redF t vs) : ∃ i, ∃ hi : i < vs.length, x = (i : Int) ∧ redB t vs vs[i] = true := by
  unfold redF at hx
  obtain ⟨i, hi, rfl⟩ := List.mem_map.1 hx
  obtain ⟨h1, h2⟩ := List.mem_filter.1 hi
  have hl := List.mem_range.1 h1
  rw [List.getElem?_eq_getElem hl] at h2
  exact ⟨i, hl, rfl, h2⟩
end Go.Proofs.YtjaknioojpgkiaaGreatDoor

/- The reference's All of layer 28, walked. The condition: the lists are short. -/
namespace Go.Proofs.YtjaknioojpgkiaaGreatDoor
open Go.RowKit

set_option maxHeartbeats 4000000 in
set_option maxRecDepth 100000 in
theorem refAllX (t : Tr) (ls : List ByteArray) (vs : List Val) (u : Int) (lang : ByteArray) (rv bv lv vv : Value) (w : World) (hr : SlI w rv t.roots) (hv : SlBr w bv t.brs) (hf : FewBr t.brs) (hrl : t.roots.length ≤ 1000000) (hm : ∀ i (h : i < t.brs.length), t.brs[i].mark.size ≤ 9223372036854775807) (hl : SlS w lv ls) (hvv : SlV w vv vs) :
    Calls Tryz.prog 76 #[.agg #[rv, bv], lv, vv, .int .i64 u, .string lang] w (RetVL (allR t ls vs u lang) w) := by
  have kA := fun W (hW : Grew w W) => refAskedI t ls vs u 1 lang rv bv lv vv W (hr.mono hW) (hv.mono hW) hf hrl hm (hl.mono hW) (hvv.mono hW)
  have kF := fun (h : askI t ls vs u 1 lang = 0) n W (hW : Grew w W) => refEff t ls vs u n lang rv bv lv vv W (askI_zero.1 h).1.1 (hr.mono hW) (hv.mono hW) (hl.mono hW) (hvv.mono hW) (.inr (askI_zero.1 h).2.1)
  have hall : allF t ls vs u lang = effsF (fun n => effF t.brs ls vs u n lang) 8 := rfl
  unfold allR
  rw [hall]
  obtain ⟨EF, hEF⟩ : ∃ EF : Int → Option Val, EF = fun n => effF t.brs ls vs u n lang := ⟨_, rfl⟩
  have kF2 := fun h n W hW => (show Calls Tryz.prog 126 #[.agg #[rv, bv], lv, vv, .int .i64 u, .int .i64 n, .string lang] W (RetV (EF n) W) by rw [hEF]; exact kF h n W hW)
  rw [← hEF]
  have KF := Lib.hid kF2
  clear kF kF2 hall hEF
  generalize askI t ls vs u 1 lang = N at kA KF ⊢
  have KA := Lib.hid kA
  obtain ⟨Ar0, cr0, rfl, -⟩ := hr.open_
  obtain ⟨Ab0, cb0, rfl, -⟩ := hv.open_
  clear kA hr hv hf hrl hm hl hvv
  have HB := Lib.hid (show ∀ W, Grew (w.alloc (.cells #[.slice Ar0 t.roots.length cr0, .slice Ab0 t.brs.length cb0] 25)) W → W.heap[w.heap.size]? = some (.cells #[.slice Ar0 t.roots.length cr0, .slice Ab0 t.brs.length cb0] 25 (0, 0)) from fun W g => heap_keepI g (heap_newI w _))
  have GA := Lib.hid ((Grew.refl w).alloc (.cells #[.slice Ar0 t.roots.length cr0, .slice Ab0 t.brs.length cb0] 25))
  by_cases hz : N = 0
  · subst hz
    rw [if_pos rfl]
    obtain ⟨i0, hi, hz0, hz1, hz2⟩ := info_parts cinfoV
    unfold RetVL
    dsimp only
    go_enter Tryz.func76, Tryz.ntmps76
    go_wp2_with fail
    generalize w.alloc (.cells #[.slice Ar0 t.roots.length cr0, .slice Ab0 t.brs.length cb0] 25) = WA at GA HB ⊢
    refine (KA.out _ GA.out).mono ?_
    rintro e w5 ⟨rfl, g5⟩
    have G5 := Lib.hid g5
    have G15 := Lib.hid (GA.out.trans g5)
    have HK := Lib.hid (fun n W (hW : Grew w W) => KF.out (by first | rfl | trivial) n W hW)
    clear g5 KF KA
    dsimp only
    go_wp2_with fail
    go_loopg [13, 14] 8 (fun gg s13 s14 wr => ∃ k : Nat, k ≤ 8 ∧ 8 - k ≤ gg ∧ s14 = .int .i64 ((k : Int) + 1) ∧ Aside (wr.ownsRow w5.heap.size 29 4 s13 (effsF EF k).length ((effsF EF k).flatMap Val.cells)) ∧ Aside (Grew w5 wr))
    case atStart => exact ⟨0, by omega, by omega, by simp, (show Aside _ from World.ownsRow_nil _ _ _ _), (show Aside _ from Grew.refl _)⟩
    case round =>
      obtain ⟨k, hk, hgk, rfl, OW, GW⟩ := hrel
      by_cases hlt : k < 8
      · have hltz : (k : Int) + 1 ≤ 8 := by omega
        have HG := Lib.hid (G15.out.trans GW.out)
        obtain ⟨x0, x1⟩ := two_cells (HB.out _ (G5.out.trans GW.out))
        have hlen := effsF_len EF k
        have kf := HK.out ((k : Int) + 1) wr HG.out
        unfold RetV at kf
        cases hq : EF ((k : Int) + 1) with
        | some x =>
          have HN := Lib.hid (effsF_some hq)
          rw [hq] at kf
          obtain ⟨xu, xe, xl, xt⟩ := x
          unfold Val.agg at kf
          dsimp only [Option.getD_some, Option.isSome_some] at kf
          have KFX := Lib.hid kf
          clear kf hq
          go_wp2_with fail
          refine KFX.out.mono ?_
          rintro e w6 ⟨rfl, g6⟩
          have gz := g6.alloc (.cells #[.int .i64 xu, .int .i64 xe, .string xl, .string xt] 29)
          have G6 := Lib.hid (GW.out.trans gz)
          have OW6 := Lib.hid (own_keep OW.out gz)
          clear x0 x1 g6 gz KFX
          dsimp only
          go_wp2_with (at_builtin; refine appR rfl _ _ 27 rfl w5 29 i0 (.agg #[.int .i64 0, .int .i64 0, .string ⟨#[]⟩, .string ⟨#[]⟩]) 4 48 Tryz.underlying27 hi hz0 hz1 hz2 rfl (by omega) _ _ _ (by rfl) _ (own_keep OW6.out ((Grew.refl _).alloc _)) (G6.out.alloc _) _ 1 [.int .i64 xu, .int .i64 xe, .string xl, .string xt] (by rfl) (rd_lit _ rfl _ (by simp)) rfl (by simp [Value.oneCell']) (by unfold maxLen; omega) (by omega) ?_; intro v8 w8 hown8 hg8 _)
          have OW8 : Aside _ := hown8
          have G8 : Aside _ := hg8
          clear hown8 hg8
          go_wp2
          go_roundg (8 - (k + 1))
          case measure => omega
          case rel =>
            refine ⟨k + 1, by omega, by omega, by go_num, (show Aside _ from ?_), (show Aside _ from ?_)⟩
            · rw [HN.out, List.flatMap_append, List.length_append]
              exact OW8.out
            · exact G8.out
        | none =>
          have HN := Lib.hid (effsF_none hq)
          rw [hq] at kf
          unfold Val.agg val0 at kf
          dsimp only [Option.getD_none, Option.isSome_none] at kf
          have KFX := Lib.hid kf
          clear kf hq
          go_wp2_with fail
          refine KFX.out.mono ?_
          rintro e w6 ⟨rfl, g6⟩
          have gz := g6.alloc (.cells #[.int .i64 0, .int .i64 0, .string ⟨#[]⟩, .string ⟨#[]⟩] 29)
          have G6 := Lib.hid (GW.out.trans gz)
          have OW6 := Lib.hid (own_keep OW.out gz)
          clear x0 x1 g6 gz KFX
          dsimp only
          go_wp2
          go_roundg (8 - (k + 1))
          case measure => omega
          case rel => exact ⟨k + 1, by omega, by omega, by go_num, (show Aside _ by rw [HN.out]; exact OW6.out), (show Aside _ from G6.out)⟩
      · have hltz : ¬ (k : Int) + 1 ≤ 8 := by omega
        obtain rfl : k = 8 := by omega
        have HG := Lib.hid (G15.out.trans GW.out)
        go_wp2
        go_ret2
        exact ⟨_, rfl, own_base OW.out G15.out.size, HG.out⟩
  · rw [if_neg hz]
    have hb : (N != 0) = true := by simpa using hz
    clear KF hz
    unfold RetVL
    go_enter Tryz.func76, Tryz.ntmps76
    go_wp2_with fail
    generalize w.alloc (.cells #[.slice Ar0 t.roots.length cr0, .slice Ab0 t.brs.length cb0] 25) = WA at GA HB ⊢
    refine (KA.out _ GA.out).mono ?_
    rintro e w5 ⟨rfl, g5⟩
    have G5 := Lib.hid (GA.out.trans g5)
    clear g5 KA
    dsimp only
    go_wp2_with fail
    go_ret2
    exact ⟨_, rfl, World.ownsRow_nil _ _ _ _, G5.out⟩
end Go.Proofs.YtjaknioojpgkiaaGreatDoor

/- slices.Compact at numbers, on a row of the call's own. No condition but the sizes that a slice can have. -/
namespace Go.Proofs.YtjaknioojpgkiaaGreatDoor
open Go.RowKit Go.Sort

theorem comp_len (l : List Int) : (Lib.compact l).length ≤ l.length := by
  unfold Lib.compact Lib.compactUpTo
  rw [List.length_map]
  have := List.length_filter_le (Lib.keeps l.toArray) (List.range l.length)
  simpa using this
theorem compact_own (l : List Int) (w0 : World) (e : TypeId) (v : Value) (w : World) (hown : w.ownsRow w0.heap.size e 1 v l.length (l.flatMap oneI)) (hg : Grew w0 w) (hl : l.length ≤ 1000000) (hcl : (Lib.compact l).length ≤ l.length) :
    Calls Tryz.prog 73 #[v] w fun en w' => ∃ v', en = .returned v' ∧ SlI w' v' (Lib.compact l) ∧ Grew w0 w' := by
  rcases Nat.eq_zero_or_pos l.length with h0 | h0
  · obtain rfl : l = [] := List.eq_nil_of_length_eq_zero h0
    have hv : ∃ A c, v = .slice A 0 c := by
      rcases hown.2 with ⟨rfl, _⟩ | ⟨g, cap, cur, rfl, _⟩
      · exact ⟨_, _, rfl⟩
      · exact ⟨_, _, rfl⟩
    obtain ⟨A, c, rfl⟩ := hv
    refine (Tryz.slices_Compact_int_empty A c w).mono ?_
    rintro en w' ⟨rfl, rfl⟩
    have hc0 : Lib.compact ([] : List Int) = [] := List.eq_nil_of_length_eq_zero (by simpa using hcl)
    refine ⟨_, rfl, ?_, hg⟩
    rw [hc0]
    exact Rd.of_own hown
  · obtain ⟨g, cap, rfl, hbg, hlt, hcap⟩ := own_form hown h0
    have hH := holdsI_of_own hown
    refine (Tryz.slices_Compact_int g 0 cap l w hH (by omega) hcap).mono ?_
    rintro en w' ⟨rfl, n, rfl⟩
    have hfl : (Lib.compact l ++ List.replicate (l.length - (Lib.compact l).length) (0 : Int)).length = l.length := by simp; omega
    have hh2 := holds_putRow (Value.int .i64) (Sort.ahead w n) g 0 l.toArray (Lib.compact l ++ List.replicate (l.length - (Lib.compact l).length) (0 : Int)).toArray (holds_ahead _ _ _ _ _ _ hH) (by simpa using hfl)
    have hs := slI_of_holds hh2 (by simp; omega) (by rw [hfl]; exact hcap) (own_max hown)
    refine ⟨_, rfl, ?_, grew_putI hbg hg _ _⟩
    have := Rd.take (k := 1) (f := oneI) (fun _ => rfl) (by omega) (show Rd _ 1 _ (_) from hs) (Lib.compact l).length (by simp)
    rw [List.take_left] at this
    exact this
end Go.Proofs.YtjaknioojpgkiaaGreatDoor
