/- ResolverIgnoresForgedAnswers: the closed facts of its row. Printed by wip/tools/gencard21.py. -/
import Derived.Test.YtbolfkojebbejaaGreatDoorCards
import Derived.JoinedOf
set_option linter.unusedVariables false
set_option maxRecDepth 100000
set_option maxHeartbeats 32000000
namespace Go.Proofs.YtbolfkojebbejaaGreatDoor
open Go
theorem jaResolverIgnoresForgedAnswers : laidOutB Tryz.prog = true := by kernel_rfl
theorem jbResolverIgnoresForgedAnswers : mapsRowed Tryz.prog = true := by kernel_rfl
theorem jcResolverIgnoresForgedAnswers : (Rows.resolverIgnoresForgedAnswersRow.inPlace == Tryz.prog.inPlace 8) = true := by kernel_rfl
theorem jdResolverIgnoresForgedAnswers : (Rows.resolverIgnoresForgedAnswersRow.unfollowed == Tryz.prog.unfollowed 8) = true := by kernel_rfl
theorem jeResolverIgnoresForgedAnswers : (Rows.resolverIgnoresForgedAnswersRow.recurses == Tryz.prog.recurses 8) = true := by kernel_rfl
theorem jfResolverIgnoresForgedAnswers : joinedFacts Tryz.prog 8 Tryz.f8 Rows.resolverIgnoresForgedAnswersSpec Rows.resolverIgnoresForgedAnswersRow = true := by
 unfold joinedFacts
 rw [jaResolverIgnoresForgedAnswers, jbResolverIgnoresForgedAnswers, jcResolverIgnoresForgedAnswers, jdResolverIgnoresForgedAnswers, jeResolverIgnoresForgedAnswers]
 kernel_rfl

end Go.Proofs.YtbolfkojebbejaaGreatDoor
