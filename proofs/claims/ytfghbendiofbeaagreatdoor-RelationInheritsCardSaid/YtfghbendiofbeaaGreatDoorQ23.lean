/- Lemmas on what the functions of the program and of the library compute: PlainE, Inh2. The conditions stand at each. -/
import Derived.Test.YtfghbendiofbeaaGreatDoorQ16
import Derived.Test.YtfghbendiofbeaaGreatDoorQ17
import Derived.Test.YtfghbendiofbeaaGreatDoorQ22
import Derived.Test.YtfghbendiofbeaaGreatDoorQ15
/- The example of the chapter, plainly. No condition. -/
namespace Go.Proofs.YtfghbendiofbeaaGreatDoor
open Go.RowKit

def exA : List Auth := [⟨4, 2, 100, 300, [⟨⟨#[120]⟩, 100, 300⟩], []⟩]
def exX : Rel := ⟨1, 1, 4, 100, 200⟩
def exP : Rel := ⟨1, 1, 4, 200, 300⟩
def exS : Rel := ⟨1, 3, 4, 100, 1048576⟩
def exM : List Rel := [exX, exP, exS]
def exB : List Br := [⟨1, 0, 1, ⟨#[120]⟩, ⟨#[]⟩, [2]⟩, ⟨2, 1, 3, ⟨#[121]⟩, ⟨#[]⟩, []⟩]
theorem ex1 : addR exA [] exX = ([exX], 0) := by decide +kernel
theorem ex2 : addR exA [exX] ⟨1, 1, 4, 150, 300⟩ = ([], 6) := by decide +kernel
theorem ex3 : addR exA [exX] exP = ([exX, exP], 0) := by decide +kernel
theorem ex4 : addR exA [exX, exP] ⟨1, 4, 4, 100, 1048576⟩ = ([], 10) := by decide +kernel
theorem ex5 : addR exA [exX, exP] exS = (exM, 0) := by decide +kernel
theorem ex6 : holdersR exA exM 2 1 120 = ([], 0) := by decide +kernel
theorem ex7 : unitsF exA exM 4 120 = ([1], 0) := by decide +kernel
theorem ex8 : (endR exA exM exX 150).1.length = 3 ∧ (endR exA exM exX 150).2 = 0 := by decide +kernel
theorem ex9 : relCheck exA exM = (-1, 0) := by decide +kernel
theorem exRight : RightR exA exM := (relCheck_right _ _).1 (by rw [ex9])
theorem exAl0 : BrAlone exB 0 (by decide) := ⟨by decide +kernel, by decide +kernel, fun h => absurd h (by omega), by decide +kernel, fun h => absurd h (by decide +kernel)⟩
theorem exAl1 : BrAlone exB 1 (by decide) := ⟨by decide +kernel, by decide +kernel, fun _ => by decide +kernel, by decide +kernel, fun h => absurd h (by decide +kernel)⟩
theorem exTree : RightT ⟨[1], exB⟩ := by
  refine ⟨by decide, fun i h => ?_, fun i h => ?_, fun i h => ?_, by simp [sortI, kidsOf, exB], fun i h => ?_⟩
  · have : i = 0 ∨ i = 1 := by simp [exB] at h; omega
    rcases this with rfl | rfl
    · exact exAl0
    · exact exAl1
  · have : i = 0 ∨ i = 1 := by simp [exB] at h; omega
    rcases this with rfl | rfl
    · simp [BrPlaced, exB]
    · simp [BrPlaced, exB, brFind, fitsF, within]
  · have : i = 0 ∨ i = 1 := by simp [exB] at h; omega
    rcases this with rfl | rfl <;> simp [sortI, kidsOf, exB]
  · have : i = 0 ∨ i = 1 := by simp [exB] at h; omega
    rcases this with rfl | rfl
    · exact ⟨1, by simp [deep, exB], by omega⟩
    · exact ⟨2, by simp [deep, exB, brFind], by omega⟩
theorem ex10 : inhR ⟨[1], exB⟩ exA exM 2 1 120 = (([4], 1), 0) := by
  rw [inhR_of (b := ⟨2, 1, 3, ⟨#[121]⟩, ⟨#[]⟩, []⟩) exTree exRight (by decide +kernel) (by decide +kernel)]
  decide +kernel
theorem ex11 : textF exX = (⟨#[49, 32, 99, 114, 101, 97, 116, 111, 114, 32, 52, 32, 102, 114, 111, 109, 32, 49, 48, 48, 32, 117, 110, 116, 105, 108, 32, 50, 48, 48]⟩, 0) := by
  have h1 : formedR exX = true := by decide +kernel
  unfold textF
  rw [h1]
  have e1 : Lib.itoa 1 = [49] := by simp [Lib.itoa, Lib.decDigits]
  have e2 : Lib.itoa 4 = [52] := by simp [Lib.itoa, Lib.decDigits]
  have e3 : Lib.itoa 100 = [49, 48, 48] := by simp [Lib.itoa, Lib.decDigits]
  have e4 : Lib.itoa 200 = [50, 48, 48] := by simp [Lib.itoa, Lib.decDigits]
  simp only [if_true, textU, textS, itoaB, exX, e1, e2, e3, e4, wordF]
  decide +kernel
theorem exFew : FewAu exA := fun i h => by
  have : i = 0 := by simp [exA] at h; omega
  subst this
  simp [exA]
end Go.Proofs.YtfghbendiofbeaaGreatDoor

/- relation.Inherited, walked: all ways together. The conditions: the library's own variables hold what they must; the lists are short. -/
namespace Go.Proofs.YtfghbendiofbeaaGreatDoor
open Go.RowKit

theorem rInh (rs : List Int) (br : List Br) (a : List Auth) (l : List Rel) (unit r d : Int) (rv bv av lv : Value) (w : World) (hE : Env w) (hr : SlI w rv rs) (hv : SlBr w bv br) (hfb : FewBr br) (hrl : rs.length ≤ 1000000) (ha : SlAu w av a) (hf : FewAu a) (hl : SlR w lv l) (hll : l.length ≤ 1000000) :
    Calls Tryz.prog 30 #[.agg #[rv, bv], av, lv, .int .i64 unit, .int .i64 r, .int .i64 d] w (RetInh (inhR ⟨rs, br⟩ a l unit r d) w) := by
  by_cases hno : (¬ RightT ⟨rs, br⟩ ∨ asksF a l ≠ 0) ∨ orF [(pathR br unit).2, rangedF r d] ≠ 0
  · exact inhEarly rs br a l unit r d rv bv av lv w hE hr hv hfb hrl ha hf hl hno
  · rw [not_or, not_or, Classical.not_not, Decidable.not_not, Decidable.not_not] at hno
    obtain ⟨⟨hT, hA⟩, hO⟩ := hno
    have hpl : (pathR br unit).1.length ≤ 1000000 := by
      unfold pathR
      split
      · simp
      · rename_i b _
        have h1 := upIds_len br br.length b
        have h2 : br.length ≤ 256 := hT.1
        simp only [pathF, List.length_reverse]
        omega
    have he : inhR ⟨rs, br⟩ a l unit r d = (inhF l r d (pathR br unit).1.reverse, 0) := by
      unfold inhR
      rw [if_neg (by rw [not_or, Classical.not_not, Decidable.not_not]; exact ⟨hT, hA⟩), if_neg (by rw [Decidable.not_not]; exact hO)]
    rw [he]
    exact callsIn_wide.1 (inhLoop rs br a l unit r d rv bv av lv w hE hr hv hfb hrl ha hf hl hll hT hA hO hpl)
end Go.Proofs.YtfghbendiofbeaaGreatDoor
