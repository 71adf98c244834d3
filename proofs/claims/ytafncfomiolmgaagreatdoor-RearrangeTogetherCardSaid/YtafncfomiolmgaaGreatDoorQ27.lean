/- Lemmas on what the functions of the program and of the library compute: PlainCg, PlainEx, F1. The conditions stand at each. -/
import Derived.Test.YtafncfomiolmgaaGreatDoorQ12
import Derived.Test.YtafncfomiolmgaaGreatDoorQ21
import Derived.Test.YtafncfomiolmgaaGreatDoorQ4
/- What is changed between two trees, by counting the units of both, plainly. No condition. -/
namespace Go.Proofs.YtafncfomiolmgaaGreatDoor
open Go.RowKit

/-- The units of both trees, one after the other. -/
def bothU (a b : Tr) : List Br := a.brs.map core ++ b.brs.map core
theorem core_asc {l : List Br} (h : idsAsc l) : idsAsc (l.map core) := List.pairwise_map.2 h
theorem asc_nodup {l : List Br} (h : idsAsc l) : l.Nodup := List.Pairwise.imp (fun {x y} hxy e => by rw [e] at hxy; omega) h
theorem count_asc {l : List Br} (h : idsAsc l) (u : Br) : l.count u = if u ∈ l then 1 else 0 := by
  have h1 := List.nodup_iff_count.1 (asc_nodup h) u
  by_cases hu : u ∈ l
  · rw [if_pos hu]
    have := List.count_pos_iff.2 hu
    omega
  · rw [if_neg hu]
    exact List.count_eq_zero.2 hu
theorem chg_of_count {a b : Tr} (ha : idsAsc a.brs) (hb : idsAsc b.brs) {l : List Int} (hl : Asc l) (hm : ∀ n, n ∈ l ↔ ∃ u, (bothU a b).count u = 1 ∧ u.id = n) : ChgIs a b l := by
  refine ⟨hl, fun n => ?_⟩
  have hA := core_asc ha
  have hB := core_asc hb
  rw [hm]
  have hc : ∀ u, (bothU a b).count u = 1 ↔ ¬ (u ∈ a.brs.map core ↔ u ∈ b.brs.map core) := by
    intro u
    unfold bothU
    rw [List.count_append, count_asc hA, count_asc hB]
    by_cases h1 : u ∈ a.brs.map core <;> by_cases h2 : u ∈ b.brs.map core <;> simp [h1, h2]
  constructor
  · rintro ⟨u, h1, rfl⟩ he
    refine (hc u).1 h1 ?_
    have h2 := find_iff hA u.id u
    have h3 := find_iff hB u.id u
    rw [he] at h2
    constructor
    · exact fun hx => (h3.1 (h2.2 ⟨hx, rfl⟩)).1
    · exact fun hx => (h2.1 (h3.2 ⟨hx, rfl⟩)).1
  · intro hne
    refine Classical.byContradiction fun hno => hne ?_
    have key : ∀ u, u.id = n → (u ∈ a.brs.map core ↔ u ∈ b.brs.map core) := fun u hu => Classical.byContradiction fun hx => hno ⟨u, (hc u).2 hx, hu⟩
    cases h1 : brFind (a.brs.map core) n with
    | some u =>
      have hu := (find_iff hA n u).1 h1
      exact ((find_iff hB n u).2 ⟨(key u hu.2).1 hu.1, hu.2⟩).symm
    | none =>
      cases h2 : brFind (b.brs.map core) n with
      | none => rfl
      | some u =>
        have hu := (find_iff hB n u).1 h2
        rw [(find_iff hA n u).2 ⟨(key u hu.2).2 hu.1, hu.2⟩] at h1
        cases h1
end Go.Proofs.YtafncfomiolmgaaGreatDoor

/- The example of the chapter, plainly. No condition. -/
namespace Go.Proofs.YtafncfomiolmgaaGreatDoor
open Go.RowKit

theorem sort25 : sortI [2, 5] = [2, 5] := by
  unfold sortI
  exact List.mergeSort_of_pairwise (by decide)

def xB : List Br := [⟨1, 0, 1, ⟨#[84, 111, 119, 110]⟩, ⟨#[84]⟩, [2, 5]⟩, ⟨2, 1, 2, ⟨#[65, 99, 116, 115]⟩, ⟨#[]⟩, [9]⟩, ⟨5, 1, 2, ⟨#[80, 108, 97, 110, 115]⟩, ⟨#[]⟩, []⟩, ⟨9, 2, 3, ⟨#[77, 105, 108, 108]⟩, ⟨#[84, 45, 57]⟩, []⟩]
def xT : Tr := ⟨[1], xB⟩
theorem xBAl0 : BrAlone xB 0 (by decide) := ⟨by decide +kernel, by decide +kernel, fun h => absurd h (by omega), by decide +kernel, fun _ => ⟨by decide +kernel, by decide +kernel⟩⟩
theorem xBAl1 : BrAlone xB 1 (by decide) := ⟨by decide +kernel, by decide +kernel, fun _ => by decide +kernel, by decide +kernel, fun h => absurd h (by decide +kernel)⟩
theorem xBAl2 : BrAlone xB 2 (by decide) := ⟨by decide +kernel, by decide +kernel, fun _ => by decide +kernel, by decide +kernel, fun h => absurd h (by decide +kernel)⟩
theorem xBAl3 : BrAlone xB 3 (by decide) := ⟨by decide +kernel, by decide +kernel, fun _ => by decide +kernel, by decide +kernel, fun _ => ⟨by decide +kernel, by decide +kernel⟩⟩
theorem xTRight : RightT xT := by
  refine ⟨by decide, fun i h => ?_, fun i h => ?_, fun i h => ?_, by simp [sortI, kidsOf, xB, xT], fun i h => ?_⟩
  · have : i = 0 ∨ i = 1 ∨ i = 2 ∨ i = 3 := by
      have h4 : i < 4 := h
      omega
    rcases this with rfl | rfl | rfl | rfl
    · exact xBAl0
    · exact xBAl1
    · exact xBAl2
    · exact xBAl3
  · have : i = 0 ∨ i = 1 ∨ i = 2 ∨ i = 3 := by
      have h4 : i < 4 := h
      omega
    rcases this with rfl | rfl | rfl | rfl <;> simp [BrPlaced, xB, xT, brFind, fitsF, within]
  · have : i = 0 ∨ i = 1 ∨ i = 2 ∨ i = 3 := by
      have h4 : i < 4 := h
      omega
    rcases this with rfl | rfl | rfl | rfl <;> first | decide +kernel | (simp [sortI, kidsOf, xB, xT]; done) | (rw [show (xT.brs[0]'(by decide)).kids = [2, 5] from rfl, sort25]; rfl)
  · have : i = 0 ∨ i = 1 ∨ i = 2 ∨ i = 3 := by
      have h4 : i < 4 := h
      omega
    rcases this with rfl | rfl | rfl | rfl
    · exact ⟨1, (by decide +kernel : deep xB 4 (xB[0]'(by decide)) = some 1), by omega⟩
    · exact ⟨2, (by decide +kernel : deep xB 4 (xB[1]'(by decide)) = some 2), by omega⟩
    · exact ⟨2, (by decide +kernel : deep xB 4 (xB[2]'(by decide)) = some 2), by omega⟩
    · exact ⟨3, (by decide +kernel : deep xB 4 (xB[3]'(by decide)) = some 3), by omega⟩
def xC : List Br := [⟨1, 0, 1, ⟨#[84, 111, 119, 110]⟩, ⟨#[84]⟩, [2, 5]⟩, ⟨2, 1, 2, ⟨#[65, 99, 116, 115]⟩, ⟨#[]⟩, []⟩, ⟨5, 1, 2, ⟨#[80, 108, 97, 110, 115]⟩, ⟨#[]⟩, [9]⟩, ⟨9, 5, 3, ⟨#[77, 105, 108, 108]⟩, ⟨#[84, 45, 57]⟩, []⟩]
def xU : Tr := ⟨[1], xC⟩
theorem xCAl0 : BrAlone xC 0 (by decide) := ⟨by decide +kernel, by decide +kernel, fun h => absurd h (by omega), by decide +kernel, fun _ => ⟨by decide +kernel, by decide +kernel⟩⟩
theorem xCAl1 : BrAlone xC 1 (by decide) := ⟨by decide +kernel, by decide +kernel, fun _ => by decide +kernel, by decide +kernel, fun h => absurd h (by decide +kernel)⟩
theorem xCAl2 : BrAlone xC 2 (by decide) := ⟨by decide +kernel, by decide +kernel, fun _ => by decide +kernel, by decide +kernel, fun h => absurd h (by decide +kernel)⟩
theorem xCAl3 : BrAlone xC 3 (by decide) := ⟨by decide +kernel, by decide +kernel, fun _ => by decide +kernel, by decide +kernel, fun _ => ⟨by decide +kernel, by decide +kernel⟩⟩
theorem xURight : RightT xU := by
  refine ⟨by decide, fun i h => ?_, fun i h => ?_, fun i h => ?_, by simp [sortI, kidsOf, xC, xU], fun i h => ?_⟩
  · have : i = 0 ∨ i = 1 ∨ i = 2 ∨ i = 3 := by
      have h4 : i < 4 := h
      omega
    rcases this with rfl | rfl | rfl | rfl
    · exact xCAl0
    · exact xCAl1
    · exact xCAl2
    · exact xCAl3
  · have : i = 0 ∨ i = 1 ∨ i = 2 ∨ i = 3 := by
      have h4 : i < 4 := h
      omega
    rcases this with rfl | rfl | rfl | rfl <;> simp [BrPlaced, xC, xU, brFind, fitsF, within]
  · have : i = 0 ∨ i = 1 ∨ i = 2 ∨ i = 3 := by
      have h4 : i < 4 := h
      omega
    rcases this with rfl | rfl | rfl | rfl <;> first | decide +kernel | (simp [sortI, kidsOf, xC, xU]; done) | (rw [show (xU.brs[0]'(by decide)).kids = [2, 5] from rfl, sort25]; rfl)
  · have : i = 0 ∨ i = 1 ∨ i = 2 ∨ i = 3 := by
      have h4 : i < 4 := h
      omega
    rcases this with rfl | rfl | rfl | rfl
    · exact ⟨1, (by decide +kernel : deep xC 4 (xC[0]'(by decide)) = some 1), by omega⟩
    · exact ⟨2, (by decide +kernel : deep xC 4 (xC[1]'(by decide)) = some 2), by omega⟩
    · exact ⟨2, (by decide +kernel : deep xC 4 (xC[2]'(by decide)) = some 2), by omega⟩
    · exact ⟨3, (by decide +kernel : deep xC 4 (xC[3]'(by decide)) = some 3), by omega⟩
def xO : Opn := ⟨1, 3, 2, 9, 5, 0, 0, ⟨#[]⟩, ⟨#[]⟩, 0, 0, 0⟩
def xP : Opn := ⟨1, 3, 2, 9, 2, 0, 0, ⟨#[]⟩, ⟨#[]⟩, 0, 0, 0⟩
def xQ : Opn := ⟨1, 0, 2, 2, 2, 0, 0, ⟨#[]⟩, ⟨#[]⟩, 0, 0, 0⟩
def xR : Opn := ⟨1, 0, 5, 2, 0, 0, 0, ⟨#[]⟩, ⟨#[]⟩, 0, 0, 0⟩
def xZ : Opn := ⟨0, 0, 0, 0, 0, 0, 0, ⟨#[]⟩, ⟨#[]⟩, 0, 0, 0⟩
theorem not3 {a b c : Prop} (ha : a) (hb : ¬ b) (hc : ¬ c) : ¬ (¬ a ∨ b ∨ c) := by
  rintro (h | h | h)
  · exact h ha
  · exact hb h
  · exact hc h
theorem xNew : newT xT xO = xU := by decide +kernel
theorem xA1 : applyR xT xO = (xU, 0) := by
  unfold applyR
  rw [if_neg (not3 xTRight (by decide +kernel) (by decide)), if_neg (by decide +kernel), xNew, if_pos xURight]
theorem xA2 : applyR xT xQ = (⟨[], []⟩, 17) := by
  have h : faultO xT xQ = 17 := by decide +kernel
  unfold applyR
  rw [if_neg (not3 xTRight (by decide +kernel) (by decide)), h, if_pos (by decide)]
theorem xA3 : applyR xT xR = (⟨[], []⟩, 11) := by
  have h : faultO xT xR = 11 := by decide +kernel
  unfold applyR
  rw [if_neg (not3 xTRight (by decide +kernel) (by decide)), h, if_pos (by decide)]
theorem xOpp : oppO xT xO = xP := by decide +kernel
theorem xForm : formedO xZ = false := by decide +kernel
theorem xChg : ChgIs xT xU [9] := by
  refine ⟨by simp [Asc], fun n => ?_⟩
  by_cases h1 : n = 1
  · subst h1; decide +kernel
  by_cases h2 : n = 2
  · subst h2; decide +kernel
  by_cases h5 : n = 5
  · subst h5; decide +kernel
  by_cases h9 : n = 9
  · subst h9; decide +kernel
  have e1 : ¬ ((1 : Int) = n) := fun e => h1 e.symm
  have e2 : ¬ ((2 : Int) = n) := fun e => h2 e.symm
  have e5 : ¬ ((5 : Int) = n) := fun e => h5 e.symm
  have e9 : ¬ ((9 : Int) = n) := fun e => h9 e.symm
  simp [brFind, xT, xU, xB, xC, core, e1, e2, e5, e9, h9]
theorem xChgU {l : List Int} (h : ChgIs xT xU l) : l = [9] := chg_unique h xChg
theorem xText : textR xO = (⟨#[109, 111, 118, 101, 32, 57, 32, 98, 101, 108, 111, 119, 32, 53, 32, 98, 101, 102, 111, 114, 101, 32, 48]⟩, 0) := by
  have h1 : formedO xO = true := by decide +kernel
  unfold textR
  rw [h1]
  have e0 : Lib.itoa 0 = [48] := by simp [Lib.itoa, Lib.decDigits]
  have e5 : Lib.itoa 5 = [53] := by simp [Lib.itoa, Lib.decDigits]
  have e9 : Lib.itoa 9 = [57] := by simp [Lib.itoa, Lib.decDigits]
  simp only [if_true, textOp, placeB, itoaB, xO, e0, e5, e9]
  decide +kernel
theorem xFew : FewBr xT.brs := ⟨by decide, fun i h => by
  have : i = 0 ∨ i = 1 ∨ i = 2 ∨ i = 3 := by
    have h4 : i < 4 := h
    omega
  rcases this with rfl | rfl | rfl | rfl <;> simp [xT, xB]⟩
end Go.Proofs.YtafncfomiolmgaaGreatDoor

/- The bounds on sizes of authorities and relations (the verifier's Few), walked: where they say yes, the lists are short. No condition. -/
namespace Go.Proofs.YtafncfomiolmgaaGreatDoor
open Go.RowKit

/-- A call that answers yes or no; where it says yes, P holds. -/
def YesIf (P : Prop) (w : World) (e : Ending) (w' : World) : Prop := ∃ q : Bool, e = .returned (.bool q) ∧ (q = true → P) ∧ Grew w w'
theorem YesIf.no {P : Prop} {w w' : World} (hg : Grew w w') : YesIf P w (.returned (.bool false)) w' := ⟨false, rfl, fun h => (Bool.false_ne_true h).elim, hg⟩
theorem YesIf.yes {P : Prop} {w w' : World} (h : P) (hg : Grew w w') : YesIf P w (.returned (.bool true)) w' := ⟨true, rfl, fun _ => h, hg⟩
end Go.Proofs.YtafncfomiolmgaaGreatDoor
