/- ProgJumps: the runs with 1 braces. -/
import Derived.Test.YtghmlonankhcgaaGreatDoorJumpsCut
namespace Go.Proofs.YtghmlonankhcgaaGreatDoor.progJumps
open Go.Eng Go.ChangeShapes Go.WideShapes Go.ChangeAt Go.RowKit
set_option maxRecDepth 100000 in
theorem j1_0 (n m : Int) : body 1 0 n m = some (.bool true, [], []) := by kernel_rfl
set_option maxRecDepth 100000 in
theorem j1_1 (n m : Int) : body 1 1 n m = some (.bool true, [], []) := by kernel_rfl
set_option maxRecDepth 100000 in
theorem j1_2 (n m : Int) : body 1 2 n m = some (.bool true, [], []) := by kernel_rfl
set_option maxRecDepth 100000 in
theorem j1_3 (n m : Int) : body 1 3 n m = some (.bool true, [], []) := by kernel_rfl
set_option maxRecDepth 100000 in
theorem j1_4 (n m : Int) : body 1 4 n m = some (.bool true, [], []) := by kernel_rfl
set_option maxRecDepth 100000 in
theorem j1_5 (n m : Int) : body 1 5 n m = some (.bool true, [], []) := by kernel_rfl
set_option maxRecDepth 100000 in
theorem j1_6 (n m : Int) : body 1 6 n m = some (.bool true, [], []) := by kernel_rfl
set_option maxRecDepth 100000 in
theorem j1_7 (n m : Int) : body 1 7 n m = some (.bool true, [], []) := by kernel_rfl
set_option maxRecDepth 100000 in
theorem j1_8 (n m : Int) : body 1 8 n m = some (.bool true, [], []) := by kernel_rfl
set_option maxRecDepth 100000 in
theorem j1_9 (n m : Int) : body 1 9 n m = some (.bool true, [], []) := by kernel_rfl
end Go.Proofs.YtghmlonankhcgaaGreatDoor.progJumps
