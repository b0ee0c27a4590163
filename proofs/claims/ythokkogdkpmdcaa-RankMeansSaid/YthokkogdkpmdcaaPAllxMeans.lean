/- RankMeans as one function out of the two parts in which it is told, and that a call comes to what it says. -/
import Derived.Test.YthokkogdkpmdcaaPAllx2
import Derived.Test.YthokkogdkpmdcaaPAllx4
import Derived.Test.YthokkogdkpmdcaaPAllx5
import Derived.Test.YthokkogdkpmdcaaPAllx8
import Derived.Test.YthokkogdkpmdcaaPAllx9
import Derived.Test.YthokkogdkpmdcaaPAllx10
import Derived.Test.YthokkogdkpmdcaaPAllx11
import Derived.Test.YthokkogdkpmdcaaPAllx12

namespace Go.Proofs.Ythokkogdkpmdcaa.PAll
open Go.RowKit Go.Proofs.YthokkogdkpmdcaaW.PrintWords Go.Proofs.YthokkogdkpmdcaaW.PrintLast Go.Proofs.YthokkogdkpmdcaaW.PrintMore
set_option linter.unusedVariables false
def offertorylaw28_RankMeans.f (k : Nat) (l0_0 : List Int) (a0_1 : Int) (a0_2 : Int) (a0_3 : Int) (a0_4 : Int) (a0_5 : Int) (a0_6 : Bool) : Option (Bool) :=
  if law4A.f k l0_0 a0_1 a0_2 a0_3 a0_4 a0_5 a0_6 = some true then some true else law4B.f k l0_0 a0_1 a0_2 a0_3 a0_4 a0_5 a0_6
theorem offertorylaw28_RankMeans.calls (k : Nat) (A0_0 : Option Addr) (c0_0 : Nat) (l0_0 : List Int) (a0_1 : Int) (a0_2 : Int) (a0_3 : Int) (a0_4 : Int) (a0_5 : Int) (a0_6 : Bool) (r : Bool) (w : World) (hr0_0 : Kd.C (Kd.int .i64) w A0_0 l0_0.length l0_0) (hc0_0 : l0_0.length ≤ c0_0) (h : offertorylaw28_RankMeans.f k l0_0 a0_1 a0_2 a0_3 a0_4 a0_5 a0_6 = some r) :
    Calls Try.prog 4 #[.agg #[.slice A0_0 l0_0.length c0_0, .int .i64 a0_1, .int .u64 a0_2, .int .u64 a0_3, .int .u64 a0_4, .int .u64 a0_5, .bool a0_6]] w fun e w' => e = .returned (.bool r) ∧ Below w.heap.size w w' := by
  unfold offertorylaw28_RankMeans.f at h
  by_cases hA : law4A.f k l0_0 a0_1 a0_2 a0_3 a0_4 a0_5 a0_6 = some true
  · rw [if_pos hA] at h
    obtain rfl : true = r := Option.some.inj h
    exact law4A.calls k A0_0 c0_0 l0_0 a0_1 a0_2 a0_3 a0_4 a0_5 a0_6 true w hr0_0 hc0_0 hA
  · rw [if_neg hA] at h
    exact law4B.calls k A0_0 c0_0 l0_0 a0_1 a0_2 a0_3 a0_4 a0_5 a0_6 r w hr0_0 hc0_0 h
end Go.Proofs.Ythokkogdkpmdcaa.PAll
