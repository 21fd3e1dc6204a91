/- ProgJumps: the runs with 0 braces. -/
import Derived.Test.YtghmlonankhcgaaGreatDoorJumpsCut
namespace Go.Proofs.YtghmlonankhcgaaGreatDoor.progJumps
open Go.Eng Go.ChangeShapes Go.WideShapes Go.ChangeAt Go.RowKit
set_option maxRecDepth 100000 in
theorem j0_0 (n m : Int) : body 0 0 n m = some (.bool true, [], []) := by kernel_rfl
set_option maxRecDepth 100000 in
theorem j0_1 (n m : Int) : body 0 1 n m = some (.bool true, [], []) := by kernel_rfl
set_option maxRecDepth 100000 in
theorem j0_2 (n m : Int) : body 0 2 n m = some (.bool true, [], []) := by kernel_rfl
set_option maxRecDepth 100000 in
theorem j0_3 (n m : Int) : body 0 3 n m = some (.bool true, [], []) := by kernel_rfl
set_option maxRecDepth 100000 in
theorem j0_4 (n m : Int) : body 0 4 n m = some (.bool true, [], []) := by kernel_rfl
set_option maxRecDepth 100000 in
theorem j0_5 (n m : Int) : body 0 5 n m = some (.bool true, [], []) := by kernel_rfl
set_option maxRecDepth 100000 in
theorem j0_6 (n m : Int) : body 0 6 n m = some (.bool true, [], []) := by kernel_rfl
set_option maxRecDepth 100000 in
theorem j0_7 (n m : Int) : body 0 7 n m = some (.bool true, [], []) := by kernel_rfl
set_option maxRecDepth 100000 in
theorem j0_8 (n m : Int) : body 0 8 n m = some (.bool true, [], []) := by kernel_rfl
set_option maxRecDepth 100000 in
theorem j0_9 (n m : Int) : body 0 9 n m = some (.bool true, [], []) := by kernel_rfl
end Go.Proofs.YtghmlonankhcgaaGreatDoor.progJumps
