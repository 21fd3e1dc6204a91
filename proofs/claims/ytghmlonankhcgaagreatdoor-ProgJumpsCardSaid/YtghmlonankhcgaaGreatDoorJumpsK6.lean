/- ProgJumps: the runs with 6 braces. -/
import Derived.Test.YtghmlonankhcgaaGreatDoorJumpsCut
namespace Go.Proofs.YtghmlonankhcgaaGreatDoor.progJumps
open Go.Eng Go.ChangeShapes Go.WideShapes Go.ChangeAt Go.RowKit
set_option maxRecDepth 100000 in
theorem j6_0 (n m : Int) : body 6 0 n m = some (.bool true, [], []) := by kernel_rfl
set_option maxRecDepth 100000 in
theorem j6_1 (n m : Int) : body 6 1 n m = some (.bool true, [], []) := by kernel_rfl
set_option maxRecDepth 100000 in
theorem j6_2 (n m : Int) : body 6 2 n m = some (.bool true, [], []) := by kernel_rfl
set_option maxRecDepth 100000 in
theorem j6_3 (n m : Int) : body 6 3 n m = some (.bool true, [], []) := by kernel_rfl
set_option maxRecDepth 100000 in
theorem j6_4 (n m : Int) : body 6 4 n m = some (.bool true, [], []) := by kernel_rfl
set_option maxRecDepth 100000 in
theorem j6_5 (n m : Int) : body 6 5 n m = some (.bool true, [], []) := by kernel_rfl
set_option maxRecDepth 100000 in
theorem j6_6 (n m : Int) : body 6 6 n m = some (.bool true, [], []) := by kernel_rfl
set_option maxRecDepth 100000 in
theorem j6_7 (n m : Int) : body 6 7 n m = some (.bool true, [], []) := by kernel_rfl
set_option maxRecDepth 100000 in
theorem j6_8 (n m : Int) : body 6 8 n m = some (.bool true, [], []) := by kernel_rfl
set_option maxRecDepth 100000 in
theorem j6_9 (n m : Int) : body 6 9 n m = some (.bool true, [], []) := by kernel_rfl
end Go.Proofs.YtghmlonankhcgaaGreatDoor.progJumps
