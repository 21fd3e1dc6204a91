/- gloss/glosslaw10.ProgRuns, a closed law, returns true. No conditions. -/
import Derived.Test.YtjjhaackoflfdaaGreatDoorBase
namespace Go.Proofs.YtjjhaackoflfdaaGreatDoor.progRuns
open Go.Eng Go.ChangeShapes Go.WideShapes Go.ChangeAt Go.RowKit

noncomputable def env : Env := envOf (cfunc Tryz.prog theC)
theorem env_ok : EnvOK theRP Tryz.prog theC env := envOf_ok fun _ _ h => h
def a122_0 : List AV := [(.str [97, 98, 99, 100, 101, 102, 103, 104, 105, 106, 107, 108, 109, 110, 111, 112, 113, 114, 115, 116, 117, 118, 119, 120, 121, 122, 65, 66, 67, 68, 69, 70, 71, 72, 73, 74, 75, 
    76, 77, 78, 79, 80, 81, 82, 83, 84, 85, 86, 87, 88, 89, 90, 48, 49, 50, 51, 52, 53, 54, 55, 56, 57, 95])]
def v122_0 : AV := (.tup [(.agg [(.bool false), (.bool false), (.bool false), (.bool false), (.bool false), (.bool false), (.bool false), (.bool false), (.bool false), (.bool false), (.bool false), 
    (.bool false), (.bool false), (.bool false), (.bool false), (.bool false), (.bool false), (.bool false), (.bool false), (.bool false), (.bool false), (.bool false), 
    (.bool false), (.bool false), (.bool false), (.bool false), (.bool false), (.bool false), (.bool false), (.bool false), (.bool false), (.bool false), (.bool false), 
    (.bool false), (.bool false), (.bool false), (.bool false), (.bool false), (.bool false), (.bool false), (.bool false), (.bool false), (.bool false), (.bool false), 
    (.bool false), (.bool false), (.bool false), (.bool false), (.bool true), (.bool true), (.bool true), (.bool true), (.bool true), (.bool true), (.bool true), (.bool true), 
    (.bool true), (.bool true), (.bool false), (.bool false), (.bool false), (.bool false), (.bool false), (.bool false), (.bool false), (.bool true), (.bool true), (.bool true), 
    (.bool true), (.bool true), (.bool true), (.bool true), (.bool true), (.bool true), (.bool true), (.bool true), (.bool true), (.bool true), (.bool true), (.bool true), 
    (.bool true), (.bool true), (.bool true), (.bool true), (.bool true), (.bool true), (.bool true), (.bool true), (.bool true), (.bool true), (.bool true), (.bool false), 
    (.bool false), (.bool false), (.bool false), (.bool true), (.bool false), (.bool true), (.bool true), (.bool true), (.bool true), (.bool true), (.bool true), (.bool true), 
    (.bool true), (.bool true), (.bool true), (.bool true), (.bool true), (.bool true), (.bool true), (.bool true), (.bool true), (.bool true), (.bool true), (.bool true), 
    (.bool true), (.bool true), (.bool true), (.bool true), (.bool true), (.bool true), (.bool true), (.bool false), (.bool false), (.bool false), (.bool false), (.bool false), 
    (.bool false), (.bool false), (.bool false), (.bool false), (.bool false), (.bool false), (.bool false), (.bool false), (.bool false), (.bool false), (.bool false), 
    (.bool false), (.bool false), (.bool false), (.bool false), (.bool false), (.bool false), (.bool false), (.bool false), (.bool false), (.bool false), (.bool false), 
    (.bool false), (.bool false), (.bool false), (.bool false), (.bool false), (.bool false), (.bool false), (.bool false), (.bool false), (.bool false), (.bool false), 
    (.bool false), (.bool false), (.bool false), (.bool false), (.bool false), (.bool false), (.bool false), (.bool false), (.bool false), (.bool false), (.bool false), 
    (.bool false), (.bool false), (.bool false), (.bool false), (.bool false), (.bool false), (.bool false), (.bool false), (.bool false), (.bool false), (.bool false), 
    (.bool false), (.bool false), (.bool false), (.bool false), (.bool false), (.bool false), (.bool false), (.bool false), (.bool false), (.bool false), (.bool false), 
    (.bool false), (.bool false), (.bool false), (.bool false), (.bool false), (.bool false), (.bool false), (.bool false), (.bool false), (.bool false), (.bool false), 
    (.bool false), (.bool false), (.bool false), (.bool false), (.bool false), (.bool false), (.bool false), (.bool false), (.bool false), (.bool false), (.bool false), 
    (.bool false), (.bool false), (.bool false), (.bool false), (.bool false), (.bool false), (.bool false), (.bool false), (.bool false), (.bool false), (.bool false), 
    (.bool false), (.bool false), (.bool false), (.bool false), (.bool false), (.bool false), (.bool false), (.bool false), (.bool false), (.bool false), (.bool false), 
    (.bool false), (.bool false), (.bool false), (.bool false), (.bool false), (.bool false), (.bool false), (.bool false), (.bool false), (.bool false), (.bool false), 
    (.bool false), (.bool false), (.bool false), (.bool false), (.bool false), (.bool false), (.bool false)]), (.bool true)])
set_option maxRecDepth 100000 in
theorem r122_0 : run env 8000 122 a122_0 [] = some (v122_0, [], []) := by kernel_rfl
def m122 : List (List AV × AV) := [(a122_0, v122_0)]
theorem m122_ok : ∀ p ∈ m122, AV.lts 0 p.1 = true ∧ Answers theRP Tryz.prog theC 122 p.1 [] p.2 [] [] :=
  memo_cons (by kernel_rfl) (answers_of_run progOK mixed env_ok r122_0) <| memo_nil
noncomputable def env122 : Env := env.memo 122 m122
theorem env122_ok : EnvOK theRP Tryz.prog theC env122 := env_ok.memo (fun _ _ h => by cases h) m122_ok
def a58_0 : List AV := [(.str [120])]
def v58_0 : AV := (.bool true)
set_option maxRecDepth 100000 in
theorem r58_0 : run env122 8000 58 a58_0 [] = some (v58_0, [], []) := by kernel_rfl
def a58_1 : List AV := [(.str [125])]
def v58_1 : AV := (.bool false)
set_option maxRecDepth 100000 in
theorem r58_1 : run env122 8000 58 a58_1 [] = some (v58_1, [], []) := by kernel_rfl
def a58_2 : List AV := [(.str [121])]
def v58_2 : AV := (.bool true)
set_option maxRecDepth 100000 in
theorem r58_2 : run env122 8000 58 a58_2 [] = some (v58_2, [], []) := by kernel_rfl
def m58 : List (List AV × AV) := [(a58_0, v58_0), (a58_1, v58_1), (a58_2, v58_2)]
theorem m58_ok : ∀ p ∈ m58, AV.lts 0 p.1 = true ∧ Answers theRP Tryz.prog theC 58 p.1 [] p.2 [] [] :=
  memo_cons (by kernel_rfl) (answers_of_run progOK mixed env122_ok r58_0) <| memo_cons (by kernel_rfl) (answers_of_run progOK mixed env122_ok r58_1) <| memo_cons (by kernel_rfl) (answers_of_run progOK mixed env122_ok r58_2) <| memo_nil
noncomputable def env58 : Env := env122.memo 58 m58
theorem env58_ok : EnvOK theRP Tryz.prog theC env58 := env122_ok.memo (fun _ _ h => by cases h) m58_ok
def a19_0 : List AV := [(.str [49, 123, 98, 32, 120, 125, 59, 112, 59, 58, 120]), (.bool false)]
def v19_0 : AV := (.tup [(.lst [(.agg [(.int .i64 1), (.int .i64 1), (.int .i64 0), (.int .i64 0), (.int .i64 0), (.int .i64 0), (.int .u64 0), (.int .u64 0), (.int .u64 0), (.int .u64 0), 
    (.lst []), (.int .i64 0), (.int .i64 0), (.int .i64 0), (.int .i64 0), (.int .i64 0), (.int .i64 0), (.int .u64 0), (.int .u64 0), (.int .u64 0), (.int .u64 0), (.lst []), 
    (.bool false), (.int .u8 123), (.str []), (.int .i64 0), (.int .i64 0), (.int .i64 0), (.int .i64 0), (.int .u64 0), (.int .u64 0), (.int .u64 0), (.int .u64 0), (.lst []), 
    (.lst []), (.bool false), (.bool false), (.int .i64 0), (.str []), (.str [])]), (.agg [(.int .i64 0), (.int .i64 0), (.int .i64 0), (.int .i64 0), (.int .i64 0), 
    (.int .i64 0), (.int .u64 0), (.int .u64 0), (.int .u64 0), (.int .u64 0), (.lst []), (.int .i64 0), (.int .i64 0), (.int .i64 0), (.int .i64 0), (.int .i64 0), (.int .i64 0), 
    (.int .u64 0), (.int .u64 0), (.int .u64 0), (.int .u64 0), (.lst []), (.bool false), (.int .u8 98), (.str [120]), (.int .i64 0), (.int .i64 0), (.int .i64 0), (.int .i64 0), 
    (.int .u64 0), (.int .u64 0), (.int .u64 0), (.int .u64 0), (.lst []), (.lst []), (.bool false), (.bool false), (.int .i64 0), (.str []), (.str [])]), (.agg [(.int .i64 0), 
    (.int .i64 0), (.int .i64 0), (.int .i64 0), (.int .i64 0), (.int .i64 0), (.int .u64 0), (.int .u64 0), (.int .u64 0), (.int .u64 0), (.lst []), (.int .i64 0), (.int .i64 0), 
    (.int .i64 0), (.int .i64 0), (.int .i64 0), (.int .i64 0), (.int .u64 0), (.int .u64 0), (.int .u64 0), (.int .u64 0), (.lst []), (.bool false), (.int .u8 125), (.str []), 
    (.int .i64 0), (.int .i64 0), (.int .i64 0), (.int .i64 0), (.int .u64 0), (.int .u64 0), (.int .u64 0), (.int .u64 0), (.lst []), (.lst []), (.bool false), (.bool false), 
    (.int .i64 0), (.str []), (.str [])]), (.agg [(.int .i64 0), (.int .i64 0), (.int .i64 0), (.int .i64 0), (.int .i64 0), (.int .i64 0), (.int .u64 0), (.int .u64 0), 
    (.int .u64 0), (.int .u64 0), (.lst []), (.int .i64 0), (.int .i64 0), (.int .i64 0), (.int .i64 0), (.int .i64 0), (.int .i64 0), (.int .u64 0), (.int .u64 0), (.int .u64 0), 
    (.int .u64 0), (.lst []), (.bool false), (.int .u8 112), (.str []), (.int .i64 0), (.int .i64 0), (.int .i64 0), (.int .i64 0), (.int .u64 0), (.int .u64 0), (.int .u64 0), 
    (.int .u64 0), (.lst []), (.lst []), (.bool false), (.bool false), (.int .i64 0), (.str []), (.str [])]), (.agg [(.int .i64 0), (.int .i64 0), (.int .i64 0), (.int .i64 0), 
    (.int .i64 0), (.int .i64 0), (.int .u64 0), (.int .u64 0), (.int .u64 0), (.int .u64 0), (.lst []), (.int .i64 0), (.int .i64 0), (.int .i64 0), (.int .i64 0), (.int .i64 0), 
    (.int .i64 0), (.int .u64 0), (.int .u64 0), (.int .u64 0), (.int .u64 0), (.lst []), (.bool false), (.int .u8 58), (.str [120]), (.int .i64 0), (.int .i64 0), (.int .i64 0), 
    (.int .i64 0), (.int .u64 0), (.int .u64 0), (.int .u64 0), (.int .u64 0), (.lst []), (.lst []), (.bool false), (.bool false), (.int .i64 0), (.str []), (.str [])])]), 
    (.int .i64 0), (.int .i64 0)])
set_option maxRecDepth 100000 in
theorem r19_0 : run env58 8000 19 a19_0 [] = some (v19_0, [], []) := by kernel_rfl
def a19_1 : List AV := [(.str [98, 32, 121]), (.bool false)]
def v19_1 : AV := (.tup [(.lst [(.agg [(.int .i64 0), (.int .i64 0), (.int .i64 0), (.int .i64 0), (.int .i64 0), (.int .i64 0), (.int .u64 0), (.int .u64 0), (.int .u64 0), (.int .u64 0), 
    (.lst []), (.int .i64 0), (.int .i64 0), (.int .i64 0), (.int .i64 0), (.int .i64 0), (.int .i64 0), (.int .u64 0), (.int .u64 0), (.int .u64 0), (.int .u64 0), (.lst []), 
    (.bool false), (.int .u8 98), (.str [121]), (.int .i64 0), (.int .i64 0), (.int .i64 0), (.int .i64 0), (.int .u64 0), (.int .u64 0), (.int .u64 0), (.int .u64 0), (.lst []), 
    (.lst []), (.bool false), (.bool false), (.int .i64 0), (.str []), (.str [])])]), (.int .i64 0), (.int .i64 0)])
set_option maxRecDepth 100000 in
theorem r19_1 : run env58 8000 19 a19_1 [] = some (v19_1, [], []) := by kernel_rfl
def m19 : List (List AV × AV) := [(a19_0, v19_0), (a19_1, v19_1)]
theorem m19_ok : ∀ p ∈ m19, AV.lts 0 p.1 = true ∧ Answers theRP Tryz.prog theC 19 p.1 [] p.2 [] [] :=
  memo_cons (by kernel_rfl) (answers_of_run progOK mixed env58_ok r19_0) <| memo_cons (by kernel_rfl) (answers_of_run progOK mixed env58_ok r19_1) <| memo_nil
noncomputable def env19 : Env := env58.memo 19 m19
theorem env19_ok : EnvOK theRP Tryz.prog theC env19 := env58_ok.memo (fun _ _ h => by cases h) m19_ok
def a40_0 : List AV := [(.lst [(.agg [(.int .i64 1), (.int .i64 1), (.int .i64 0), (.int .i64 0), (.int .i64 0), (.int .i64 0), (.int .u64 0), (.int .u64 0), (.int .u64 0), (.int .u64 0), (.lst []), 
    (.int .i64 0), (.int .i64 0), (.int .i64 0), (.int .i64 0), (.int .i64 0), (.int .i64 0), (.int .u64 0), (.int .u64 0), (.int .u64 0), (.int .u64 0), (.lst []), (.bool false), 
    (.int .u8 123), (.str []), (.int .i64 0), (.int .i64 0), (.int .i64 0), (.int .i64 0), (.int .u64 0), (.int .u64 0), (.int .u64 0), (.int .u64 0), (.lst []), (.lst []), 
    (.bool false), (.bool false), (.int .i64 0), (.str []), (.str [])]), (.agg [(.int .i64 0), (.int .i64 0), (.int .i64 0), (.int .i64 0), (.int .i64 0), (.int .i64 0), 
    (.int .u64 0), (.int .u64 0), (.int .u64 0), (.int .u64 0), (.lst []), (.int .i64 0), (.int .i64 0), (.int .i64 0), (.int .i64 0), (.int .i64 0), (.int .i64 0), (.int .u64 0), 
    (.int .u64 0), (.int .u64 0), (.int .u64 0), (.lst []), (.bool false), (.int .u8 98), (.str [120]), (.int .i64 0), (.int .i64 0), (.int .i64 0), (.int .i64 0), (.int .u64 0), 
    (.int .u64 0), (.int .u64 0), (.int .u64 0), (.lst []), (.lst []), (.bool false), (.bool false), (.int .i64 0), (.str []), (.str [])]), (.agg [(.int .i64 0), (.int .i64 0), 
    (.int .i64 0), (.int .i64 0), (.int .i64 0), (.int .i64 0), (.int .u64 0), (.int .u64 0), (.int .u64 0), (.int .u64 0), (.lst []), (.int .i64 0), (.int .i64 0), (.int .i64 0), 
    (.int .i64 0), (.int .i64 0), (.int .i64 0), (.int .u64 0), (.int .u64 0), (.int .u64 0), (.int .u64 0), (.lst []), (.bool false), (.int .u8 125), (.str []), (.int .i64 0), 
    (.int .i64 0), (.int .i64 0), (.int .i64 0), (.int .u64 0), (.int .u64 0), (.int .u64 0), (.int .u64 0), (.lst []), (.lst []), (.bool false), (.bool false), (.int .i64 0), 
    (.str []), (.str [])]), (.agg [(.int .i64 0), (.int .i64 0), (.int .i64 0), (.int .i64 0), (.int .i64 0), (.int .i64 0), (.int .u64 0), (.int .u64 0), (.int .u64 0), 
    (.int .u64 0), (.lst []), (.int .i64 0), (.int .i64 0), (.int .i64 0), (.int .i64 0), (.int .i64 0), (.int .i64 0), (.int .u64 0), (.int .u64 0), (.int .u64 0), (.int .u64 0), 
    (.lst []), (.bool false), (.int .u8 112), (.str []), (.int .i64 0), (.int .i64 0), (.int .i64 0), (.int .i64 0), (.int .u64 0), (.int .u64 0), (.int .u64 0), (.int .u64 0), 
    (.lst []), (.lst []), (.bool false), (.bool false), (.int .i64 0), (.str []), (.str [])]), (.agg [(.int .i64 0), (.int .i64 0), (.int .i64 0), (.int .i64 0), (.int .i64 0), 
    (.int .i64 0), (.int .u64 0), (.int .u64 0), (.int .u64 0), (.int .u64 0), (.lst []), (.int .i64 0), (.int .i64 0), (.int .i64 0), (.int .i64 0), (.int .i64 0), (.int .i64 0), 
    (.int .u64 0), (.int .u64 0), (.int .u64 0), (.int .u64 0), (.lst []), (.bool false), (.int .u8 58), (.str [120]), (.int .i64 0), (.int .i64 0), (.int .i64 0), (.int .i64 0), 
    (.int .u64 0), (.int .u64 0), (.int .u64 0), (.int .u64 0), (.lst []), (.lst []), (.bool false), (.bool false), (.int .i64 0), (.str []), (.str [])])]), (.bool false)]
def v40_0 : AV := (.bool true)
set_option maxRecDepth 100000 in
theorem r40_0 : run env19 8000 40 a40_0 [] = some (v40_0, [], []) := by kernel_rfl
def a40_1 : List AV := [(.lst [(.agg [(.int .i64 0), (.int .i64 0), (.int .i64 0), (.int .i64 0), (.int .i64 0), (.int .i64 0), (.int .u64 0), (.int .u64 0), (.int .u64 0), (.int .u64 0), (.lst []), 
    (.int .i64 0), (.int .i64 0), (.int .i64 0), (.int .i64 0), (.int .i64 0), (.int .i64 0), (.int .u64 0), (.int .u64 0), (.int .u64 0), (.int .u64 0), (.lst []), (.bool false), 
    (.int .u8 98), (.str [121]), (.int .i64 0), (.int .i64 0), (.int .i64 0), (.int .i64 0), (.int .u64 0), (.int .u64 0), (.int .u64 0), (.int .u64 0), (.lst []), (.lst []), 
    (.bool false), (.bool false), (.int .i64 0), (.str []), (.str [])])]), (.bool false)]
def v40_1 : AV := (.bool true)
set_option maxRecDepth 100000 in
theorem r40_1 : run env19 8000 40 a40_1 [] = some (v40_1, [], []) := by kernel_rfl
def m40 : List (List AV × AV) := [(a40_0, v40_0), (a40_1, v40_1)]
theorem m40_ok : ∀ p ∈ m40, AV.lts 0 p.1 = true ∧ Answers theRP Tryz.prog theC 40 p.1 [] p.2 [] [] :=
  memo_cons (by kernel_rfl) (answers_of_run progOK mixed env19_ok r40_0) <| memo_cons (by kernel_rfl) (answers_of_run progOK mixed env19_ok r40_1) <| memo_nil
noncomputable def env40 : Env := env19.memo 40 m40
theorem env40_ok : EnvOK theRP Tryz.prog theC env40 := env19_ok.memo (fun _ _ h => by cases h) m40_ok
set_option maxRecDepth 100000 in
theorem ran : run env40 8000 4 [] [] = some (.bool true, [], []) := by kernel_rfl

theorem walk (W : World) : Calls Tryz.prog 4 #[] W fun e W' => e = .returned (.bool true) ∧ Still W W' := by
  refine (closed_calls (answers_of_run progOK mixed env40_ok ran) (fun _ => rfl) Tryz.func4 (by kernel_rfl) (c := Tryz.f4.body.getD .skip) (by kernel_rfl) W).mono ?_
  rintro e W' ⟨u, β, F, he, hv, hs⟩
  refine ⟨?_, hs⟩
  rw [he]
  cases hv; rfl

theorem contract (H : Type) (enc : TypeId × Value → H) (W : World) (args : Array Value) (ds gs : List (DataW H)) (before : List MemPlace)
    (hW : DataW.Whole enc Tryz.prog Tryz.f4.params.toList Rows.progRunsSpec.vars false W args.toList ds gs before) :
    Calls Tryz.prog 4 args W fun e W' => ∃ v, e = .returned v ∧ Rows.progRunsSpec.post enc Tryz.prog Tryz.f4 false true false false W args v W' := by
  have hW' := hW
  obtain ⟨p, q, hA0, hV, rfl, hfz, hnd⟩ := hW
  have hA : DataW.TrodAll enc Tryz.prog W 0 (fun _ => true) true Tryz.f4.params.toList args.toList ds p := hA0
  rw [Tryz.params4] at hA
  obtain ⟨hargs, rfl, rfl⟩ := trodAll_nil hA
  obtain rfl : args = #[] := by cases args; simp_all
  obtain ⟨rfl, rfl⟩ := trodVars_none hV
  refine (walk W).mono fun e W' ⟨he, hs⟩ => ?_
  subst he
  exact ⟨_, rfl, post_still (pa := []) (pv := []) hW' (fun _ _ _ => trodAll_cons_mk (shut_bool Tryz.underlying4 _) trodAll_mk0) (fun _ _ => trodAll_mk0) (fun _ _ => rfl) rfl (hs.kept _)⟩

theorem reads (os : Os) {H : Type} (enc : TypeId × Value → H) : ∃ places, DataW.whole enc Tryz.prog ((laidWorld os).forCall (fun _ _ => 0) ⟨#[], #[], []⟩).memory Tryz.f4.params.toList Rows.progRunsSpec.vars false (#[] : Array Value).toList 8 = some ([], [], places) :=
  ⟨[], by kernel_rfl⟩

set_option maxRecDepth 100000 in
theorem lifted (os : Os) (started : os.Started) (H : Type) (enc : TypeId × Value → H) (F : Stop.Interp) :
    ReturnsInHanded {} Tryz.checked os 4 .any ((OpenSpec.ofChange Rows.progRunsSpec).preRow enc Tryz.prog Tryz.f4 Rows.progRunsRow.domain false Rows.progRunsRow.laid) (((OpenSpec.ofChange Rows.progRunsSpec).at F).post enc Tryz.prog Tryz.f4 false true false false) := by
  obtain ⟨places, hx⟩ := reads os enc
  refine returnsInHanded_of_row (C := Tryz.checked) (s := OpenSpec.ofChange Rows.progRunsSpec) own started (by kernel_rfl) Tryz.func4
    (witness_row_at (enc := enc) (C := Tryz.checked) false (laidWorld os) #[] rfl (by kernel_rfl) (by kernel_rfl) (by kernel_rfl)
      (OpenSpec.preRow_of_cond 8 hx (by kernel_rfl) (fun k hk => by cases hk) (by kernel_rfl) (laid_met os))) ?_
  intro W base args ds gs before hval hW _ _ _ hL _ _
  exact contract H enc W args ds gs before hW

theorem said : Rows.ProgRunsSaid :=
  OpenClaim.holds_of_cond 4 Tryz.f4 rfl rfl rfl rfl rfl rfl rfl ⟨rfl, rfl, rfl, rfl, rfl⟩ rfl rfl rfl rfl rfl (by kernel_rfl) Tryz.func4 (by kernel_rfl)
    (of_decide_eq_true (by kernel_rfl)) (by unfold Func.isWrapper; first | (rw [if_pos (by decide +kernel)]; kernel_rfl) | (rw [if_neg (by decide +kernel)]; exact ⟨rfl, rfl⟩))
    (fun os started H enc _ F => by rw [OpenClaim.pre_eq_preRow]; exact lifted os started H enc F)

theorem plain (f : FuncId) (fn : Func) (hf : Tryz.pinned.checked.prog.funcNamed "gloss/glosslaw10.ProgRuns" = some f) (hfn : Tryz.pinned.checked.prog.funcs[f]? = some fn) :
    true = Tryz.pinned.checked.prog.looks [] ∧ ∀ (j : Nat) t, fn.params[j]? = some t → Tryz.pinned.checked.prog.wantsStandIn t = false := by
  obtain rfl : f = 4 := Option.some.inj ((show Tryz.prog.funcNamed "gloss/glosslaw10.ProgRuns" = some 4 by kernel_rfl).symm.trans hf) |>.symm
  obtain rfl : fn = Tryz.f4 := (Option.some.inj (Tryz.func4.symm.trans hfn)).symm
  refine ⟨by kernel_rfl, fun j t ht => ?_⟩
  rw [Tryz.params4] at ht
  simp at ht

/-- THE CARD -/
theorem card : Rows.ProgRunsCardSaid :=
  Claim7.holds_tied_plain_at .later [] _ _ _ _ said (fun _ h => by cases h) (by kernel_rfl) (fun _ h => by cases h) progRuns_row_tie rfl ⟨rfl, rfl⟩ (by kernel_rfl) rfl plain (by kernel_rfl)
#print axioms card
end Go.Proofs.YtjjhaackoflfdaaGreatDoor.progRuns

