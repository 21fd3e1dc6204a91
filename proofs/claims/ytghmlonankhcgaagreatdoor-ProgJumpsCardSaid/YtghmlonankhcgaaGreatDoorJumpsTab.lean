/- Answers of closed calls that ProgJumps comes to. -/
import Derived.Test.YtghmlonankhcgaaGreatDoorJumpsFns
namespace Go.Proofs.YtghmlonankhcgaaGreatDoor.progJumps
open Go.Eng Go.ChangeShapes Go.WideShapes Go.ChangeAt Go.RowKit
def ax41_0 : List AV := [(.str [97, 98, 99, 100, 101, 102, 103, 104, 105, 106, 107, 108, 109, 110, 111, 112, 113, 114, 115, 116, 117, 118, 119, 120, 121, 122, 65, 66, 67, 68, 69, 70, 71, 72, 
    73, 74, 75, 76, 77, 78, 79, 80, 81, 82, 83, 84, 85, 86, 87, 88, 89, 90, 48, 49, 50, 51, 52, 53, 54, 55, 56, 57, 95])]
def vx41_0 : AV := (.tup [(.agg [(.bool false), (.bool false), (.bool false), (.bool false), (.bool false), (.bool false), (.bool false), (.bool false), (.bool false), (.bool false), 
    (.bool false), (.bool false), (.bool false), (.bool false), (.bool false), (.bool false), (.bool false), (.bool false), (.bool false), (.bool false), (.bool false), 
    (.bool false), (.bool false), (.bool false), (.bool false), (.bool false), (.bool false), (.bool false), (.bool false), (.bool false), (.bool false), (.bool false), 
    (.bool false), (.bool false), (.bool false), (.bool false), (.bool false), (.bool false), (.bool false), (.bool false), (.bool false), (.bool false), (.bool false), 
    (.bool false), (.bool false), (.bool false), (.bool false), (.bool false), (.bool true), (.bool true), (.bool true), (.bool true), (.bool true), (.bool true), 
    (.bool true), (.bool true), (.bool true), (.bool true), (.bool false), (.bool false), (.bool false), (.bool false), (.bool false), (.bool false), (.bool false), 
    (.bool true), (.bool true), (.bool true), (.bool true), (.bool true), (.bool true), (.bool true), (.bool true), (.bool true), (.bool true), (.bool true), 
    (.bool true), (.bool true), (.bool true), (.bool true), (.bool true), (.bool true), (.bool true), (.bool true), (.bool true), (.bool true), (.bool true), 
    (.bool true), (.bool true), (.bool true), (.bool true), (.bool false), (.bool false), (.bool false), (.bool false), (.bool true), (.bool false), (.bool true), 
    (.bool true), (.bool true), (.bool true), (.bool true), (.bool true), (.bool true), (.bool true), (.bool true), (.bool true), (.bool true), (.bool true), 
    (.bool true), (.bool true), (.bool true), (.bool true), (.bool true), (.bool true), (.bool true), (.bool true), (.bool true), (.bool true), (.bool true), 
    (.bool true), (.bool true), (.bool true), (.bool false), (.bool false), (.bool false), (.bool false), (.bool false), (.bool false), (.bool false), (.bool false), 
    (.bool false), (.bool false), (.bool false), (.bool false), (.bool false), (.bool false), (.bool false), (.bool false), (.bool false), (.bool false), (.bool false), 
    (.bool false), (.bool false), (.bool false), (.bool false), (.bool false), (.bool false), (.bool false), (.bool false), (.bool false), (.bool false), (.bool false), 
    (.bool false), (.bool false), (.bool false), (.bool false), (.bool false), (.bool false), (.bool false), (.bool false), (.bool false), (.bool false), (.bool false), 
    (.bool false), (.bool false), (.bool false), (.bool false), (.bool false), (.bool false), (.bool false), (.bool false), (.bool false), (.bool false), (.bool false), 
    (.bool false), (.bool false), (.bool false), (.bool false), (.bool false), (.bool false), (.bool false), (.bool false), (.bool false), (.bool false), (.bool false), 
    (.bool false), (.bool false), (.bool false), (.bool false), (.bool false), (.bool false), (.bool false), (.bool false), (.bool false), (.bool false), (.bool false), 
    (.bool false), (.bool false), (.bool false), (.bool false), (.bool false), (.bool false), (.bool false), (.bool false), (.bool false), (.bool false), (.bool false), 
    (.bool false), (.bool false), (.bool false), (.bool false), (.bool false), (.bool false), (.bool false), (.bool false), (.bool false), (.bool false), (.bool false), 
    (.bool false), (.bool false), (.bool false), (.bool false), (.bool false), (.bool false), (.bool false), (.bool false), (.bool false), (.bool false), (.bool false), 
    (.bool false), (.bool false), (.bool false), (.bool false), (.bool false), (.bool false), (.bool false), (.bool false), (.bool false), (.bool false), (.bool false), 
    (.bool false), (.bool false), (.bool false), (.bool false), (.bool false), (.bool false), (.bool false), (.bool false), (.bool false), (.bool false), (.bool false), 
    (.bool false), (.bool false), (.bool false), (.bool false)]), (.bool true)])
set_option maxRecDepth 100000 in
theorem rx41_0 : runK env0 8 8000 60 41 ax41_0 [] = some (vx41_0, [], []) := by kernel_rfl
def mx41 : List (List AV × AV) := [(ax41_0, vx41_0)]
theorem mx41_ok : ∀ p ∈ mx41, AV.lts 0 p.1 = true ∧ Answers theRP Tryz.prog theC 41 p.1 [] p.2 [] [] :=
  memo_cons (by kernel_rfl) (answers_of_runK progOK mixed env0_ok rx41_0) <| memo_nil
noncomputable def envA : Env := env0.memo 41 mx41
theorem envA_ok : EnvOK theRP Tryz.prog theC envA := env0_ok.memo (fun _ _ h => by cases h) mx41_ok
def ax7_0 : List AV := [(.str [120])]
def vx7_0 : AV := (.bool true)
set_option maxRecDepth 100000 in
theorem rx7_0 : runK envA 8 8000 60 7 ax7_0 [] = some (vx7_0, [], []) := by kernel_rfl
def ax7_1 : List AV := [(.str [125])]
def vx7_1 : AV := (.bool false)
set_option maxRecDepth 100000 in
theorem rx7_1 : runK envA 8 8000 60 7 ax7_1 [] = some (vx7_1, [], []) := by kernel_rfl
def ax7_2 : List AV := [(.str [121])]
def vx7_2 : AV := (.bool true)
set_option maxRecDepth 100000 in
theorem rx7_2 : runK envA 8 8000 60 7 ax7_2 [] = some (vx7_2, [], []) := by kernel_rfl
def mx7 : List (List AV × AV) := [(ax7_0, vx7_0), (ax7_1, vx7_1), (ax7_2, vx7_2)]
theorem mx7_ok : ∀ p ∈ mx7, AV.lts 0 p.1 = true ∧ Answers theRP Tryz.prog theC 7 p.1 [] p.2 [] [] :=
  memo_cons (by kernel_rfl) (answers_of_runK progOK mixed envA_ok rx7_0) <| memo_cons (by kernel_rfl) (answers_of_runK progOK mixed envA_ok rx7_1) <| memo_cons (by kernel_rfl) (answers_of_runK progOK mixed envA_ok rx7_2) <| memo_nil
noncomputable def envB : Env := envA.memo 7 mx7
theorem envB_ok : EnvOK theRP Tryz.prog theC envB := envA_ok.memo (fun _ _ h => by cases h) mx7_ok
def ax65_0 : List AV := [(.str [49, 123, 98, 32, 120, 125, 59, 112, 59, 58, 120]), (.bool false)]
def vx65_0 : AV := (.tup [(.lst [(.agg [(.int .i64 1), (.int .i64 1), (.int .i64 0), (.int .i64 0), (.int .i64 0), (.int .i64 0), (.int .u64 0), (.int .u64 0), (.int .u64 0), 
    (.int .u64 0), (.lst []), (.int .i64 0), (.int .i64 0), (.int .i64 0), (.int .i64 0), (.int .i64 0), (.int .i64 0), (.int .u64 0), (.int .u64 0), (.int .u64 0), 
    (.int .u64 0), (.lst []), (.bool false), (.int .u8 123), (.str []), (.int .i64 0), (.int .i64 0), (.int .i64 0), (.int .i64 0), (.int .u64 0), (.int .u64 0), 
    (.int .u64 0), (.int .u64 0), (.lst []), (.lst []), (.bool false), (.bool false), (.int .i64 0), (.str []), (.str [])]), (.agg [(.int .i64 0), (.int .i64 0), 
    (.int .i64 0), (.int .i64 0), (.int .i64 0), (.int .i64 0), (.int .u64 0), (.int .u64 0), (.int .u64 0), (.int .u64 0), (.lst []), (.int .i64 0), (.int .i64 0), 
    (.int .i64 0), (.int .i64 0), (.int .i64 0), (.int .i64 0), (.int .u64 0), (.int .u64 0), (.int .u64 0), (.int .u64 0), (.lst []), (.bool false), (.int .u8 98), 
    (.str [120]), (.int .i64 0), (.int .i64 0), (.int .i64 0), (.int .i64 0), (.int .u64 0), (.int .u64 0), (.int .u64 0), (.int .u64 0), (.lst []), (.lst []), 
    (.bool false), (.bool false), (.int .i64 0), (.str []), (.str [])]), (.agg [(.int .i64 0), (.int .i64 0), (.int .i64 0), (.int .i64 0), (.int .i64 0), (.int .i64 0), 
    (.int .u64 0), (.int .u64 0), (.int .u64 0), (.int .u64 0), (.lst []), (.int .i64 0), (.int .i64 0), (.int .i64 0), (.int .i64 0), (.int .i64 0), (.int .i64 0), 
    (.int .u64 0), (.int .u64 0), (.int .u64 0), (.int .u64 0), (.lst []), (.bool false), (.int .u8 125), (.str []), (.int .i64 0), (.int .i64 0), (.int .i64 0), 
    (.int .i64 0), (.int .u64 0), (.int .u64 0), (.int .u64 0), (.int .u64 0), (.lst []), (.lst []), (.bool false), (.bool false), (.int .i64 0), (.str []), (.str [])]), 
    (.agg [(.int .i64 0), (.int .i64 0), (.int .i64 0), (.int .i64 0), (.int .i64 0), (.int .i64 0), (.int .u64 0), (.int .u64 0), (.int .u64 0), (.int .u64 0), 
    (.lst []), (.int .i64 0), (.int .i64 0), (.int .i64 0), (.int .i64 0), (.int .i64 0), (.int .i64 0), (.int .u64 0), (.int .u64 0), (.int .u64 0), (.int .u64 0), 
    (.lst []), (.bool false), (.int .u8 112), (.str []), (.int .i64 0), (.int .i64 0), (.int .i64 0), (.int .i64 0), (.int .u64 0), (.int .u64 0), (.int .u64 0), 
    (.int .u64 0), (.lst []), (.lst []), (.bool false), (.bool false), (.int .i64 0), (.str []), (.str [])]), (.agg [(.int .i64 0), (.int .i64 0), (.int .i64 0), 
    (.int .i64 0), (.int .i64 0), (.int .i64 0), (.int .u64 0), (.int .u64 0), (.int .u64 0), (.int .u64 0), (.lst []), (.int .i64 0), (.int .i64 0), (.int .i64 0), 
    (.int .i64 0), (.int .i64 0), (.int .i64 0), (.int .u64 0), (.int .u64 0), (.int .u64 0), (.int .u64 0), (.lst []), (.bool false), (.int .u8 58), (.str [120]), 
    (.int .i64 0), (.int .i64 0), (.int .i64 0), (.int .i64 0), (.int .u64 0), (.int .u64 0), (.int .u64 0), (.int .u64 0), (.lst []), (.lst []), (.bool false), 
    (.bool false), (.int .i64 0), (.str []), (.str [])])]), (.int .i64 0), (.int .i64 0)])
set_option maxRecDepth 100000 in
theorem rx65_0 : runK envB 8 8000 60 65 ax65_0 [] = some (vx65_0, [], []) := by kernel_rfl
def ax65_1 : List AV := [(.str [98, 32, 121]), (.bool false)]
def vx65_1 : AV := (.tup [(.lst [(.agg [(.int .i64 0), (.int .i64 0), (.int .i64 0), (.int .i64 0), (.int .i64 0), (.int .i64 0), (.int .u64 0), (.int .u64 0), (.int .u64 0), 
    (.int .u64 0), (.lst []), (.int .i64 0), (.int .i64 0), (.int .i64 0), (.int .i64 0), (.int .i64 0), (.int .i64 0), (.int .u64 0), (.int .u64 0), (.int .u64 0), 
    (.int .u64 0), (.lst []), (.bool false), (.int .u8 98), (.str [121]), (.int .i64 0), (.int .i64 0), (.int .i64 0), (.int .i64 0), (.int .u64 0), (.int .u64 0), 
    (.int .u64 0), (.int .u64 0), (.lst []), (.lst []), (.bool false), (.bool false), (.int .i64 0), (.str []), (.str [])])]), (.int .i64 0), (.int .i64 0)])
set_option maxRecDepth 100000 in
theorem rx65_1 : runK envB 8 8000 60 65 ax65_1 [] = some (vx65_1, [], []) := by kernel_rfl
def mx65 : List (List AV × AV) := [(ax65_0, vx65_0), (ax65_1, vx65_1)]
theorem mx65_ok : ∀ p ∈ mx65, AV.lts 0 p.1 = true ∧ Answers theRP Tryz.prog theC 65 p.1 [] p.2 [] [] :=
  memo_cons (by kernel_rfl) (answers_of_runK progOK mixed envB_ok rx65_0) <| memo_cons (by kernel_rfl) (answers_of_runK progOK mixed envB_ok rx65_1) <| memo_nil
noncomputable def envC : Env := envB.memo 65 mx65
theorem envC_ok : EnvOK theRP Tryz.prog theC envC := envB_ok.memo (fun _ _ h => by cases h) mx65_ok
def ax25_0 : List AV := [(.lst [(.agg [(.int .i64 1), (.int .i64 1), (.int .i64 0), (.int .i64 0), (.int .i64 0), (.int .i64 0), (.int .u64 0), (.int .u64 0), (.int .u64 0), (.int .u64 0), 
    (.lst []), (.int .i64 0), (.int .i64 0), (.int .i64 0), (.int .i64 0), (.int .i64 0), (.int .i64 0), (.int .u64 0), (.int .u64 0), (.int .u64 0), (.int .u64 0), 
    (.lst []), (.bool false), (.int .u8 123), (.str []), (.int .i64 0), (.int .i64 0), (.int .i64 0), (.int .i64 0), (.int .u64 0), (.int .u64 0), (.int .u64 0), 
    (.int .u64 0), (.lst []), (.lst []), (.bool false), (.bool false), (.int .i64 0), (.str []), (.str [])]), (.agg [(.int .i64 0), (.int .i64 0), (.int .i64 0), 
    (.int .i64 0), (.int .i64 0), (.int .i64 0), (.int .u64 0), (.int .u64 0), (.int .u64 0), (.int .u64 0), (.lst []), (.int .i64 0), (.int .i64 0), (.int .i64 0), 
    (.int .i64 0), (.int .i64 0), (.int .i64 0), (.int .u64 0), (.int .u64 0), (.int .u64 0), (.int .u64 0), (.lst []), (.bool false), (.int .u8 98), (.str [120]), 
    (.int .i64 0), (.int .i64 0), (.int .i64 0), (.int .i64 0), (.int .u64 0), (.int .u64 0), (.int .u64 0), (.int .u64 0), (.lst []), (.lst []), (.bool false), 
    (.bool false), (.int .i64 0), (.str []), (.str [])]), (.agg [(.int .i64 0), (.int .i64 0), (.int .i64 0), (.int .i64 0), (.int .i64 0), (.int .i64 0), (.int .u64 0), 
    (.int .u64 0), (.int .u64 0), (.int .u64 0), (.lst []), (.int .i64 0), (.int .i64 0), (.int .i64 0), (.int .i64 0), (.int .i64 0), (.int .i64 0), (.int .u64 0), 
    (.int .u64 0), (.int .u64 0), (.int .u64 0), (.lst []), (.bool false), (.int .u8 125), (.str []), (.int .i64 0), (.int .i64 0), (.int .i64 0), (.int .i64 0), 
    (.int .u64 0), (.int .u64 0), (.int .u64 0), (.int .u64 0), (.lst []), (.lst []), (.bool false), (.bool false), (.int .i64 0), (.str []), (.str [])]), 
    (.agg [(.int .i64 0), (.int .i64 0), (.int .i64 0), (.int .i64 0), (.int .i64 0), (.int .i64 0), (.int .u64 0), (.int .u64 0), (.int .u64 0), (.int .u64 0), 
    (.lst []), (.int .i64 0), (.int .i64 0), (.int .i64 0), (.int .i64 0), (.int .i64 0), (.int .i64 0), (.int .u64 0), (.int .u64 0), (.int .u64 0), (.int .u64 0), 
    (.lst []), (.bool false), (.int .u8 112), (.str []), (.int .i64 0), (.int .i64 0), (.int .i64 0), (.int .i64 0), (.int .u64 0), (.int .u64 0), (.int .u64 0), 
    (.int .u64 0), (.lst []), (.lst []), (.bool false), (.bool false), (.int .i64 0), (.str []), (.str [])]), (.agg [(.int .i64 0), (.int .i64 0), (.int .i64 0), 
    (.int .i64 0), (.int .i64 0), (.int .i64 0), (.int .u64 0), (.int .u64 0), (.int .u64 0), (.int .u64 0), (.lst []), (.int .i64 0), (.int .i64 0), (.int .i64 0), 
    (.int .i64 0), (.int .i64 0), (.int .i64 0), (.int .u64 0), (.int .u64 0), (.int .u64 0), (.int .u64 0), (.lst []), (.bool false), (.int .u8 58), (.str [120]), 
    (.int .i64 0), (.int .i64 0), (.int .i64 0), (.int .i64 0), (.int .u64 0), (.int .u64 0), (.int .u64 0), (.int .u64 0), (.lst []), (.lst []), (.bool false), 
    (.bool false), (.int .i64 0), (.str []), (.str [])])]), (.bool false)]
def vx25_0 : AV := (.bool true)
set_option maxRecDepth 100000 in
theorem rx25_0 : runK envC 8 8000 60 25 ax25_0 [] = some (vx25_0, [], []) := by kernel_rfl
def ax25_1 : List AV := [(.lst [(.agg [(.int .i64 0), (.int .i64 0), (.int .i64 0), (.int .i64 0), (.int .i64 0), (.int .i64 0), (.int .u64 0), (.int .u64 0), (.int .u64 0), (.int .u64 0), 
    (.lst []), (.int .i64 0), (.int .i64 0), (.int .i64 0), (.int .i64 0), (.int .i64 0), (.int .i64 0), (.int .u64 0), (.int .u64 0), (.int .u64 0), (.int .u64 0), 
    (.lst []), (.bool false), (.int .u8 98), (.str [121]), (.int .i64 0), (.int .i64 0), (.int .i64 0), (.int .i64 0), (.int .u64 0), (.int .u64 0), (.int .u64 0), 
    (.int .u64 0), (.lst []), (.lst []), (.bool false), (.bool false), (.int .i64 0), (.str []), (.str [])])]), (.bool false)]
def vx25_1 : AV := (.bool true)
set_option maxRecDepth 100000 in
theorem rx25_1 : runK envC 8 8000 60 25 ax25_1 [] = some (vx25_1, [], []) := by kernel_rfl
def mx25 : List (List AV × AV) := [(ax25_0, vx25_0), (ax25_1, vx25_1)]
theorem mx25_ok : ∀ p ∈ mx25, AV.lts 0 p.1 = true ∧ Answers theRP Tryz.prog theC 25 p.1 [] p.2 [] [] :=
  memo_cons (by kernel_rfl) (answers_of_runK progOK mixed envC_ok rx25_0) <| memo_cons (by kernel_rfl) (answers_of_runK progOK mixed envC_ok rx25_1) <| memo_nil
noncomputable def envD : Env := envC.memo 25 mx25
theorem envD_ok : EnvOK theRP Tryz.prog theC envD := envC_ok.memo (fun _ _ h => by cases h) mx25_ok
def ax11_0 : List AV := []
def vx11_0 : AV := (.bool true)
set_option maxRecDepth 100000 in
theorem rx11_0 : runK envD 8 8000 60 11 ax11_0 [] = some (vx11_0, [], []) := by kernel_rfl
def mx11 : List (List AV × AV) := [(ax11_0, vx11_0)]
theorem mx11_ok : ∀ p ∈ mx11, AV.lts 0 p.1 = true ∧ Answers theRP Tryz.prog theC 11 p.1 [] p.2 [] [] :=
  memo_cons (by kernel_rfl) (answers_of_runK progOK mixed envD_ok rx11_0) <| memo_nil
def ay8_0 : List AV := [(.agg [(.int .i64 0), (.int .i64 0), (.int .i64 0), (.int .i64 0), (.int .i64 0), (.int .i64 0), (.int .u64 0), (.int .u64 0), (.int .u64 0), (.int .u64 0), (.lst []), 
    (.int .i64 0), (.int .i64 0), (.int .i64 0), (.int .i64 0), (.int .i64 0), (.int .i64 0), (.int .u64 0), (.int .u64 0), (.int .u64 0), (.int .u64 0), (.lst []), 
    (.bool false), (.int .u8 58), (.str [116, 111, 112]), (.int .i64 0), (.int .i64 0), (.int .i64 0), (.int .i64 0), (.int .u64 0), (.int .u64 0), (.int .u64 0), 
    (.int .u64 0), (.lst []), (.lst []), (.bool false), (.bool false), (.int .i64 0), (.str []), (.str [])]), (.bool false)]
def vy8_0 : AV := (.bool true)
set_option maxRecDepth 100000 in
theorem ry8_0 : runK envA 8 8000 60 8 ay8_0 [] = some (vy8_0, [], []) := by kernel_rfl
def ay8_1 : List AV := [(.agg [(.int .i64 0), (.int .i64 0), (.int .i64 0), (.int .i64 0), (.int .i64 0), (.int .i64 0), (.int .u64 0), (.int .u64 0), (.int .u64 0), (.int .u64 0), (.lst []), 
    (.int .i64 0), (.int .i64 0), (.int .i64 0), (.int .i64 0), (.int .i64 0), (.int .i64 0), (.int .u64 0), (.int .u64 0), (.int .u64 0), (.int .u64 0), (.lst []), 
    (.bool false), (.int .u8 123), (.str []), (.int .i64 0), (.int .i64 0), (.int .i64 0), (.int .i64 0), (.int .u64 0), (.int .u64 0), (.int .u64 0), (.int .u64 0), 
    (.lst []), (.lst []), (.bool false), (.bool false), (.int .i64 0), (.str []), (.str [])]), (.bool false)]
def vy8_1 : AV := (.bool true)
set_option maxRecDepth 100000 in
theorem ry8_1 : runK envA 8 8000 60 8 ay8_1 [] = some (vy8_1, [], []) := by kernel_rfl
def ay8_2 : List AV := [(.agg [(.int .i64 0), (.int .i64 0), (.int .i64 0), (.int .i64 0), (.int .i64 0), (.int .i64 0), (.int .u64 0), (.int .u64 0), (.int .u64 0), (.int .u64 0), (.lst []), 
    (.int .i64 0), (.int .i64 0), (.int .i64 0), (.int .i64 0), (.int .i64 0), (.int .i64 0), (.int .u64 0), (.int .u64 0), (.int .u64 0), (.int .u64 0), (.lst []), 
    (.bool false), (.int .u8 112), (.str []), (.int .i64 0), (.int .i64 0), (.int .i64 0), (.int .i64 0), (.int .u64 0), (.int .u64 0), (.int .u64 0), (.int .u64 0), 
    (.lst []), (.lst []), (.bool false), (.bool false), (.int .i64 0), (.str []), (.str [])]), (.bool false)]
def vy8_2 : AV := (.bool true)
set_option maxRecDepth 100000 in
theorem ry8_2 : runK envA 8 8000 60 8 ay8_2 [] = some (vy8_2, [], []) := by kernel_rfl
def ay8_3 : List AV := [(.agg [(.int .i64 0), (.int .i64 0), (.int .i64 0), (.int .i64 0), (.int .i64 0), (.int .i64 0), (.int .u64 0), (.int .u64 0), (.int .u64 0), (.int .u64 0), (.lst []), 
    (.int .i64 0), (.int .i64 0), (.int .i64 0), (.int .i64 0), (.int .i64 0), (.int .i64 0), (.int .u64 0), (.int .u64 0), (.int .u64 0), (.int .u64 0), (.lst []), 
    (.bool false), (.int .u8 98), (.str [116, 111, 112]), (.int .i64 0), (.int .i64 0), (.int .i64 0), (.int .i64 0), (.int .u64 0), (.int .u64 0), (.int .u64 0), 
    (.int .u64 0), (.lst []), (.lst []), (.bool false), (.bool false), (.int .i64 0), (.str []), (.str [])]), (.bool false)]
def vy8_3 : AV := (.bool true)
set_option maxRecDepth 100000 in
theorem ry8_3 : runK envA 8 8000 60 8 ay8_3 [] = some (vy8_3, [], []) := by kernel_rfl
def ay8_4 : List AV := [(.agg [(.int .i64 0), (.int .i64 0), (.int .i64 0), (.int .i64 0), (.int .i64 0), (.int .i64 0), (.int .u64 0), (.int .u64 0), (.int .u64 0), (.int .u64 0), (.lst []), 
    (.int .i64 0), (.int .i64 0), (.int .i64 0), (.int .i64 0), (.int .i64 0), (.int .i64 0), (.int .u64 0), (.int .u64 0), (.int .u64 0), (.int .u64 0), (.lst []), 
    (.bool false), (.int .u8 116), (.str [101, 110, 100]), (.int .i64 0), (.int .i64 0), (.int .i64 0), (.int .i64 0), (.int .u64 0), (.int .u64 0), (.int .u64 0), 
    (.int .u64 0), (.lst []), (.lst []), (.bool false), (.bool false), (.int .i64 0), (.str []), (.str [])]), (.bool false)]
def vy8_4 : AV := (.bool true)
set_option maxRecDepth 100000 in
theorem ry8_4 : runK envA 8 8000 60 8 ay8_4 [] = some (vy8_4, [], []) := by kernel_rfl
def ay8_5 : List AV := [(.agg [(.int .i64 0), (.int .i64 0), (.int .i64 0), (.int .i64 0), (.int .i64 0), (.int .i64 0), (.int .u64 0), (.int .u64 0), (.int .u64 0), (.int .u64 0), (.lst []), 
    (.int .i64 0), (.int .i64 0), (.int .i64 0), (.int .i64 0), (.int .i64 0), (.int .i64 0), (.int .u64 0), (.int .u64 0), (.int .u64 0), (.int .u64 0), (.lst []), 
    (.bool false), (.int .u8 98), (.str []), (.int .i64 0), (.int .i64 0), (.int .i64 0), (.int .i64 0), (.int .u64 0), (.int .u64 0), (.int .u64 0), (.int .u64 0), 
    (.lst []), (.lst []), (.bool false), (.bool false), (.int .i64 0), (.str []), (.str [])]), (.bool false)]
def vy8_5 : AV := (.bool true)
set_option maxRecDepth 100000 in
theorem ry8_5 : runK envA 8 8000 60 8 ay8_5 [] = some (vy8_5, [], []) := by kernel_rfl
def ay8_6 : List AV := [(.agg [(.int .i64 0), (.int .i64 0), (.int .i64 0), (.int .i64 0), (.int .i64 0), (.int .i64 0), (.int .u64 0), (.int .u64 0), (.int .u64 0), (.int .u64 0), (.lst []), 
    (.int .i64 0), (.int .i64 0), (.int .i64 0), (.int .i64 0), (.int .i64 0), (.int .i64 0), (.int .u64 0), (.int .u64 0), (.int .u64 0), (.int .u64 0), (.lst []), 
    (.bool false), (.int .u8 125), (.str []), (.int .i64 0), (.int .i64 0), (.int .i64 0), (.int .i64 0), (.int .u64 0), (.int .u64 0), (.int .u64 0), (.int .u64 0), 
    (.lst []), (.lst []), (.bool false), (.bool false), (.int .i64 0), (.str []), (.str [])]), (.bool false)]
def vy8_6 : AV := (.bool true)
set_option maxRecDepth 100000 in
theorem ry8_6 : runK envA 8 8000 60 8 ay8_6 [] = some (vy8_6, [], []) := by kernel_rfl
def ay8_7 : List AV := [(.agg [(.int .i64 0), (.int .i64 0), (.int .i64 0), (.int .i64 0), (.int .i64 0), (.int .i64 0), (.int .u64 0), (.int .u64 0), (.int .u64 0), (.int .u64 0), (.lst []), 
    (.int .i64 0), (.int .i64 0), (.int .i64 0), (.int .i64 0), (.int .i64 0), (.int .i64 0), (.int .u64 0), (.int .u64 0), (.int .u64 0), (.int .u64 0), (.lst []), 
    (.bool false), (.int .u8 58), (.str [101, 110, 100]), (.int .i64 0), (.int .i64 0), (.int .i64 0), (.int .i64 0), (.int .u64 0), (.int .u64 0), (.int .u64 0), 
    (.int .u64 0), (.lst []), (.lst []), (.bool false), (.bool false), (.int .i64 0), (.str []), (.str [])]), (.bool false)]
def vy8_7 : AV := (.bool true)
set_option maxRecDepth 100000 in
theorem ry8_7 : runK envA 8 8000 60 8 ay8_7 [] = some (vy8_7, [], []) := by kernel_rfl
def my8 : List (List AV × AV) := [(ay8_0, vy8_0), (ay8_1, vy8_1), (ay8_2, vy8_2), (ay8_3, vy8_3), (ay8_4, vy8_4), (ay8_5, vy8_5), (ay8_6, vy8_6), (ay8_7, vy8_7)]
theorem my8_ok : ∀ p ∈ my8, AV.lts 0 p.1 = true ∧ Answers theRP Tryz.prog theC 8 p.1 [] p.2 [] [] :=
  memo_cons (by kernel_rfl) (answers_of_runK progOK mixed envA_ok ry8_0) <| memo_cons (by kernel_rfl) (answers_of_runK progOK mixed envA_ok ry8_1) <| memo_cons (by kernel_rfl) (answers_of_runK progOK mixed envA_ok ry8_2) <| memo_cons (by kernel_rfl) (answers_of_runK progOK mixed envA_ok ry8_3) <| memo_cons (by kernel_rfl) (answers_of_runK progOK mixed envA_ok ry8_4) <| memo_cons (by kernel_rfl) (answers_of_runK progOK mixed envA_ok ry8_5) <| memo_cons (by kernel_rfl) (answers_of_runK progOK mixed envA_ok ry8_6) <| memo_cons (by kernel_rfl) (answers_of_runK progOK mixed envA_ok ry8_7) <| memo_nil
noncomputable def envE : Env := env0.memo 11 mx11
theorem envE_ok : EnvOK theRP Tryz.prog theC envE := env0_ok.memo (fun _ _ h => by cases h) mx11_ok
noncomputable def envF : Env := envE.memo 8 my8
theorem envF_ok : EnvOK theRP Tryz.prog theC envF := envE_ok.memo (fun _ _ h => by cases h) my8_ok

/-- a number is brought into bounds -/
theorem within_ok (args : List AV) (h : Heap) (v : AV) (h' : Heap) (ws : List Nat) (hr : withinG args h = some (v, h', ws)) : Answers theRP Tryz.prog theC 6 args h v h' ws := by
  unfold withinG at hr
  split at hr
  · rename_i n lo hi
    split at hr
    · rename_i hc
      simp only [Option.some.injEq, Prod.mk.injEq] at hr
      obtain ⟨rfl, rfl, rfl⟩ := hr
      exact answers_of_RUN progOK mixed (EnvOK.bare (fn := cfunc Tryz.prog theC) (fun _ _ h => h) names) (within_RUN (E := Env.bare (cfunc Tryz.prog theC)) rfl (by kernel_rfl) n lo hi hc.1 hc.2.1 hc.2.2 h)
    · simp at hr
  · simp at hr
noncomputable def envG : Env := envF.put 6 withinG
theorem envG_ok : EnvOK theRP Tryz.prog theC envG := envF_ok.put within_ok

end Go.Proofs.YtghmlonankhcgaaGreatDoor.progJumps
