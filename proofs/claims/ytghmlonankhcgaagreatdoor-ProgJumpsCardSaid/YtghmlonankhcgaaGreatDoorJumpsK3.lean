/- ProgJumps: the runs with 3 braces. -/
import Derived.Test.YtghmlonankhcgaaGreatDoorJumpsCut
namespace Go.Proofs.YtghmlonankhcgaaGreatDoor.progJumps
open Go.Eng Go.ChangeShapes Go.WideShapes Go.ChangeAt Go.RowKit
set_option maxRecDepth 100000 in
theorem j3_0 (n m : Int) : body 3 0 n m = some (.bool true, [], []) := by kernel_rfl
set_option maxRecDepth 100000 in
theorem j3_1 (n m : Int) : body 3 1 n m = some (.bool true, [], []) := by kernel_rfl
set_option maxRecDepth 100000 in
theorem j3_2 (n m : Int) : body 3 2 n m = some (.bool true, [], []) := by kernel_rfl
set_option maxRecDepth 100000 in
theorem j3_3 (n m : Int) : body 3 3 n m = some (.bool true, [], []) := by kernel_rfl
set_option maxRecDepth 100000 in
theorem j3_4 (n m : Int) : body 3 4 n m = some (.bool true, [], []) := by kernel_rfl
set_option maxRecDepth 100000 in
theorem j3_5 (n m : Int) : body 3 5 n m = some (.bool true, [], []) := by kernel_rfl
set_option maxRecDepth 100000 in
theorem j3_6 (n m : Int) : body 3 6 n m = some (.bool true, [], []) := by kernel_rfl
set_option maxRecDepth 100000 in
theorem j3_7 (n m : Int) : body 3 7 n m = some (.bool true, [], []) := by kernel_rfl
set_option maxRecDepth 100000 in
theorem j3_8 (n m : Int) : body 3 8 n m = some (.bool true, [], []) := by kernel_rfl
set_option maxRecDepth 100000 in
theorem j3_9 (n m : Int) : body 3 9 n m = some (.bool true, [], []) := by kernel_rfl
end Go.Proofs.YtghmlonankhcgaaGreatDoor.progJumps
