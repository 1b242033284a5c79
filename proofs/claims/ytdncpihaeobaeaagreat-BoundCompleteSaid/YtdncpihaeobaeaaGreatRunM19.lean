/- Chapter 19's runs: the model's own words. -/
import Derived.Test.YtdncpihaeobaeaaGreatCoreLaw2
set_option linter.unusedVariables false
namespace Go.Proofs.YtdncpihaeobaeaaGreat
open Go.RowKit
deriving instance DecidableEq for Rel
def duoM : Su := ⟨4, 8, 50, [⟨3, 3, 2, 2, 4⟩]⟩
def regM (t : Int) : ActM := ⟨1, t, 0, 0, ⟨[], 10, 10, 2, 0, -1⟩, ⟨false, ⟨0, 0, 0, 0⟩⟩⟩
def offM (t tm v : Int) (m : Bool) : ActM := ⟨2, t, 0, 0, ⟨[], 0, 0, 0, 0, 0⟩, ⟨m, ⟨tm, 0, v, 0⟩⟩⟩
def plainM (k t n : Int) : ActM := ⟨k, t, 0, n, ⟨[], 0, 0, 0, 0, 0⟩, ⟨false, ⟨0, 0, 0, 0⟩⟩⟩
def acts19 : List ActM := [regM 0, offM 0 1 5 false, offM 0 10 0 true, regM 1, offM 1 1 7 false, offM 1 10 0 true, plainM 3 0 0, plainM 3 0 0, plainM 3 0 0, plainM 3 0 0, plainM 5 1 9, plainM 4 0 9]
theorem run19_len : ((newCo duoM).ans acts19).length = 12 := by decide +kernel
theorem run19_told : (((newCo duoM).ans acts19).getD 10 ⟨0, [], []⟩).told = [⟨0, 0, 12, false⟩] := by decide +kernel
theorem run19_rows : (((newCo duoM).ans acts19).getD 11 ⟨0, [], []⟩).rows = [⟨0, 0, 5, 1, 1⟩] := by decide +kernel
theorem run19_ticks : ((newCo duoM).after acts19).ticks = 4 := by decide +kernel
end Go.Proofs.YtdncpihaeobaeaaGreat
