/- What is small by its size. -/
import Derived.Test.YtbbdeajfjconcaaH5
namespace Go.Proofs.Ytbbdeajfjconcaa
theorem Dr.small_of {x : Dr} (h : x.sz ≤ 4000000) : x.small := by unfold Dr.sz at h; unfold Dr.small; omega
theorem Rs.small_of {x : Rs} (h : x.sz ≤ 4000000) : x.small := by unfold Rs.sz at h; unfold Rs.small; omega
theorem Df.small_of {x : Df} (h : x.sz ≤ 4000000) : x.small := by unfold Df.sz at h; unfold Df.small; omega
end Go.Proofs.Ytbbdeajfjconcaa
