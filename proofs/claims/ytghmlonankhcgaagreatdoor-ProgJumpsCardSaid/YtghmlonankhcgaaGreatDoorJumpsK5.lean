/- ProgJumps: the runs with 5 braces. -/
import Derived.Test.YtghmlonankhcgaaGreatDoorJumpsCut
namespace Go.Proofs.YtghmlonankhcgaaGreatDoor.progJumps
open Go.Eng Go.ChangeShapes Go.WideShapes Go.ChangeAt Go.RowKit
set_option maxRecDepth 100000 in
theorem j5_0 (n m : Int) : body 5 0 n m = some (.bool true, [], []) := by kernel_rfl
set_option maxRecDepth 100000 in
theorem j5_1 (n m : Int) : body 5 1 n m = some (.bool true, [], []) := by kernel_rfl
set_option maxRecDepth 100000 in
theorem j5_2 (n m : Int) : body 5 2 n m = some (.bool true, [], []) := by kernel_rfl
set_option maxRecDepth 100000 in
theorem j5_3 (n m : Int) : body 5 3 n m = some (.bool true, [], []) := by kernel_rfl
set_option maxRecDepth 100000 in
theorem j5_4 (n m : Int) : body 5 4 n m = some (.bool true, [], []) := by kernel_rfl
set_option maxRecDepth 100000 in
theorem j5_5 (n m : Int) : body 5 5 n m = some (.bool true, [], []) := by kernel_rfl
set_option maxRecDepth 100000 in
theorem j5_6 (n m : Int) : body 5 6 n m = some (.bool true, [], []) := by kernel_rfl
set_option maxRecDepth 100000 in
theorem j5_7 (n m : Int) : body 5 7 n m = some (.bool true, [], []) := by kernel_rfl
set_option maxRecDepth 100000 in
theorem j5_8 (n m : Int) : body 5 8 n m = some (.bool true, [], []) := by kernel_rfl
set_option maxRecDepth 100000 in
theorem j5_9 (n m : Int) : body 5 9 n m = some (.bool true, [], []) := by kernel_rfl
end Go.Proofs.YtghmlonankhcgaaGreatDoor.progJumps
