/- The law's own run, its two numbers in bounds. -/
import Derived.Test.YtghmlonankhcgaaGreatDoorJumpsTab
namespace Go.Proofs.YtghmlonankhcgaaGreatDoor.progJumps
open Go.Eng Go.ChangeShapes Go.WideShapes Go.ChangeAt Go.RowKit

noncomputable def sub : RunF := runK envG 8 8000 59
noncomputable def its0 : List AItem := [.code af4.body]
noncomputable def tr0 (n m : Int) : STr := argsT (fullT 8) 0 [.int .i64 n, .int .i64 m]
noncomputable def tr1 (n m K J : Int) : STr := putK 170 (putK 170 (putK 170 (putK 170 (putK 170 (tr0 n m) (some 4) (.bool false)) (some 13) (.int .i64 n)) (some 14) (.int .i64 K)) (some 15) (.int .i64 m)) (some 16) (.int .i64 J)
set_option maxRecDepth 100000 in
theorem cut (s : RunF) (G : GoR) (n m : Int) : iterT (putR s 6 withinG) 0 170 G 10 its0 (tr0 n m) [] [] = G (advI 10 its0) (tr1 n m (withinZ n 0 6) (withinZ m 0 9)) [] [] := by kernel_rfl
noncomputable def body (K J n m : Int) : Option (AV × Heap × List Nat) :=
  finT af4 [] (goT (putR sub 6 withinG) 0 170 7990 (advI 10 its0) (tr1 n m K J) [] [])
theorem ran_of (n m : Int) {x : AV × Heap × List Nat} (hb : body (withinZ n 0 6) (withinZ m 0 9) n m = some x) : ∃ k, run envG k 4 [.int .i64 n, .int .i64 m] [] = some x := by
  refine law_body (D := 8) (F := 8000) (F' := 7990 + 10) (d := 59) (f0 := 6) (gx := withinG) (af := af4) (by kernel_rfl) (by kernel_rfl) (by kernel_rfl) rfl rfl rfl (by kernel_rfl) ?_
  rw [goT_iter]
  have hc := cut sub (goT (putR sub 6 withinG) 0 170 7990) n m
  unfold body at hb
  rw [← hc] at hb
  exact hb
end Go.Proofs.YtghmlonankhcgaaGreatDoor.progJumps
