/- What the program's table says of the element types, where no helper of the laws has said it yet. -/
import Derived.Test.YtgekgokkbakcmaaH4
namespace Go.Proofs.Ytgekgokkbakcmaa
open Go.RowKit
theorem Try.infoFd : (Try.prog.info? 161).map (fun i => (i.zero, i.size, i.bytes)) = some (some (Fd.z.v), 2, 24) := by kernel_rfl
theorem Try.infoAt : (Try.prog.info? 146).map (fun i => (i.zero, i.size, i.bytes)) = some (some (At.z.v), 4, 48) := by kernel_rfl
theorem Try.infoRs : (Try.prog.info? 151).map (fun i => (i.zero, i.size, i.bytes)) = some (some (P2.z.v), 2, 40) := by kernel_rfl
theorem Try.infoFl : (Try.prog.info? 56).map (fun i => (i.zero, i.size, i.bytes)) = some (some (P5.z.v), 5, 56) := by kernel_rfl
end Go.Proofs.Ytgekgokkbakcmaa
