/- glosslaw10.ProgJumps returns true, whatever its two numbers. No conditions. -/
import Derived.Test.YtghmlonankhcgaaGreatDoorJumpsK0
import Derived.Test.YtghmlonankhcgaaGreatDoorJumpsK1
import Derived.Test.YtghmlonankhcgaaGreatDoorJumpsK2
import Derived.Test.YtghmlonankhcgaaGreatDoorJumpsK3
import Derived.Test.YtghmlonankhcgaaGreatDoorJumpsK4
import Derived.Test.YtghmlonankhcgaaGreatDoorJumpsK5
import Derived.Test.YtghmlonankhcgaaGreatDoorJumpsK6
namespace Go.Proofs.YtghmlonankhcgaaGreatDoor.progJumps
open Go.Eng Go.ChangeShapes Go.WideShapes Go.ChangeAt Go.RowKit

theorem ran (n m : Int) : ∃ k, run envG k 4 [.int .i64 n, .int .i64 m] [] = some (.bool true, [], []) := by
  apply ran_of
  have k1 := withinZ_ge (n := n) (show (0 : Int) ≤ 6 by decide)
  have k2 := withinZ_le (n := n) (show (0 : Int) ≤ 6 by decide)
  have j1 := withinZ_ge (n := m) (show (0 : Int) ≤ 9 by decide)
  have j2 := withinZ_le (n := m) (show (0 : Int) ≤ 9 by decide)
  generalize withinZ n 0 6 = K at *
  generalize withinZ m 0 9 = J at *
  have hK : K = 0 ∨ K = 1 ∨ K = 2 ∨ K = 3 ∨ K = 4 ∨ K = 5 ∨ K = 6 := by omega
  have hJ : J = 0 ∨ J = 1 ∨ J = 2 ∨ J = 3 ∨ J = 4 ∨ J = 5 ∨ J = 6 ∨ J = 7 ∨ J = 8 ∨ J = 9 := by omega
  rcases hK with rfl | rfl | rfl | rfl | rfl | rfl | rfl
  · rcases hJ with rfl | rfl | rfl | rfl | rfl | rfl | rfl | rfl | rfl | rfl
    · exact j0_0 n m
    · exact j0_1 n m
    · exact j0_2 n m
    · exact j0_3 n m
    · exact j0_4 n m
    · exact j0_5 n m
    · exact j0_6 n m
    · exact j0_7 n m
    · exact j0_8 n m
    · exact j0_9 n m
  · rcases hJ with rfl | rfl | rfl | rfl | rfl | rfl | rfl | rfl | rfl | rfl
    · exact j1_0 n m
    · exact j1_1 n m
    · exact j1_2 n m
    · exact j1_3 n m
    · exact j1_4 n m
    · exact j1_5 n m
    · exact j1_6 n m
    · exact j1_7 n m
    · exact j1_8 n m
    · exact j1_9 n m
  · rcases hJ with rfl | rfl | rfl | rfl | rfl | rfl | rfl | rfl | rfl | rfl
    · exact j2_0 n m
    · exact j2_1 n m
    · exact j2_2 n m
    · exact j2_3 n m
    · exact j2_4 n m
    · exact j2_5 n m
    · exact j2_6 n m
    · exact j2_7 n m
    · exact j2_8 n m
    · exact j2_9 n m
  · rcases hJ with rfl | rfl | rfl | rfl | rfl | rfl | rfl | rfl | rfl | rfl
    · exact j3_0 n m
    · exact j3_1 n m
    · exact j3_2 n m
    · exact j3_3 n m
    · exact j3_4 n m
    · exact j3_5 n m
    · exact j3_6 n m
    · exact j3_7 n m
    · exact j3_8 n m
    · exact j3_9 n m
  · rcases hJ with rfl | rfl | rfl | rfl | rfl | rfl | rfl | rfl | rfl | rfl
    · exact j4_0 n m
    · exact j4_1 n m
    · exact j4_2 n m
    · exact j4_3 n m
    · exact j4_4 n m
    · exact j4_5 n m
    · exact j4_6 n m
    · exact j4_7 n m
    · exact j4_8 n m
    · exact j4_9 n m
  · rcases hJ with rfl | rfl | rfl | rfl | rfl | rfl | rfl | rfl | rfl | rfl
    · exact j5_0 n m
    · exact j5_1 n m
    · exact j5_2 n m
    · exact j5_3 n m
    · exact j5_4 n m
    · exact j5_5 n m
    · exact j5_6 n m
    · exact j5_7 n m
    · exact j5_8 n m
    · exact j5_9 n m
  · rcases hJ with rfl | rfl | rfl | rfl | rfl | rfl | rfl | rfl | rfl | rfl
    · exact j6_0 n m
    · exact j6_1 n m
    · exact j6_2 n m
    · exact j6_3 n m
    · exact j6_4 n m
    · exact j6_5 n m
    · exact j6_6 n m
    · exact j6_7 n m
    · exact j6_8 n m
    · exact j6_9 n m

theorem intT : Tryz.prog.underlying 3 = some (.int .i64) := by kernel_rfl

theorem walk (n m : Int) (W : World) : Calls Tryz.prog 4 #[.int .i64 n, .int .i64 m] W fun e W' => e = .returned (.bool true) ∧ Still W W' := by
  obtain ⟨k, hk⟩ := ran n m
  have hA := answers_of_run progOK mixed envG_ok hk
  refine (law_calls hA (fun _ => rfl) Tryz.func4 (by kernel_rfl) (c := Tryz.f4.body.getD .skip) (by kernel_rfl) W (us := #[.int .i64 n, .int .i64 m]) ?_).mono ?_
  · refine ⟨rfl, fun j c u hc hu => ?_⟩
    rcases j with _ | _ | j
    · simp at hc hu; subst hc; subst hu; exact .int _ _
    · simp at hc hu; subst hc; subst hu; exact .int _ _
    · simp at hc
  · rintro e W' ⟨u, β, F, he, hv, hs⟩
    refine ⟨?_, hs⟩
    rw [he]
    cases hv; rfl

set_option maxRecDepth 100000 in
theorem contract (H : Type) (enc : TypeId × Value → H) (W : World) (base : Nat) (args : Array Value) (ds gs : List (DataW H)) (before : List MemPlace)
    (hval : ∀ (j : Nat) t v, Tryz.f4.params[j]? = some t → args[j]? = some v → Value.okWide Tryz.prog W .any base t v)
    (hW : DataW.Whole enc Tryz.prog Tryz.f4.params.toList Rows.progJumpsSpec.vars false W args.toList ds gs before) :
    Calls Tryz.prog 4 args W fun e W' => ∃ v, e = .returned v ∧ Rows.progJumpsSpec.post enc Tryz.prog Tryz.f4 false true false false W args v W' := by
  have hW' := hW
  obtain ⟨p, q, hA0, hV, rfl, hfz, hnd⟩ := hW
  have hA : DataW.TrodAll enc Tryz.prog W 0 (fun _ => true) true Tryz.f4.params.toList args.toList ds p := hA0
  rw [Tryz.params4] at hA hval
  obtain ⟨v0, vs0, d0, ds0, p0, q0, hargs, rfl, rfl, h0, r0⟩ := trodAll_cons hA
  obtain ⟨v1, vs1, d1, ds1, p1, q1, rfl, rfl, rfl, h1, r1⟩ := trodAll_cons r0
  obtain ⟨rfl, rfl, rfl⟩ := trodAll_nil r1
  obtain rfl : args = #[v0, v1] := by cases args; simp_all
  obtain ⟨rfl, rfl⟩ := trodVars_none hV
  obtain ⟨n, rfl, rfl, rfl, wn⟩ := open_int intT (hval 0 3 v0 (by simp) (by simp)) h0
  obtain ⟨m, rfl, rfl, rfl, wm⟩ := open_int intT (hval 1 3 v1 (by simp) (by simp)) h1
  clear hA0
  simp only [List.append_nil] at hW'
  refine (walk n m W).mono fun e W' ⟨he, hs⟩ => ?_
  subst he
  exact ⟨_, rfl, post_still (pa := []) (pv := []) hW' (fun _ _ _ => trodAll_cons_mk (shut_bool boolT _) trodAll_mk0) (fun _ _ => trodAll_cons_mk (shut_int intT wn) (trodAll_cons_mk (shut_int intT wm) trodAll_mk0)) (fun _ _ => rfl) rfl (hs.kept _)⟩

theorem laid_met (os : Os) : laidMet Tryz.prog Rows.progJumpsRow.laid ((laidWorld os).forCall (fun _ _ => 0) ⟨#[], #[.int .i64 0, .int .i64 0], []⟩).memory :=
  laidMet_of_run' 8 (by kernel_rfl) (by kernel_rfl)
theorem reads (os : Os) {H : Type} (enc : TypeId × Value → H) : ∃ places, DataW.whole enc Tryz.prog ((laidWorld os).forCall (fun _ _ => 0) ⟨#[], #[.int .i64 0, .int .i64 0], []⟩).memory Tryz.f4.params.toList Rows.progJumpsSpec.vars false (#[.int .i64 0, .int .i64 0] : Array Value).toList 8 = some ([.lit (.int .i64 0), .lit (.int .i64 0)], [], places) :=
  ⟨[], by kernel_rfl⟩

set_option maxRecDepth 100000 in
theorem lifted (os : Os) (started : os.Started) (H : Type) (enc : TypeId × Value → H) (F : Stop.Interp) :
    ReturnsInHanded {} Tryz.checked os 4 .any ((OpenSpec.ofChange Rows.progJumpsSpec).preRow enc Tryz.prog Tryz.f4 Rows.progJumpsRow.domain false Rows.progJumpsRow.laid) (((OpenSpec.ofChange Rows.progJumpsSpec).at F).post enc Tryz.prog Tryz.f4 false true false false) := by
  obtain ⟨places, hx⟩ := reads os enc
  refine returnsInHanded_of_row (C := Tryz.checked) (s := OpenSpec.ofChange Rows.progJumpsSpec) own started (by kernel_rfl) Tryz.func4
    (witness_row_at (enc := enc) (C := Tryz.checked) false (laidWorld os) #[.int .i64 0, .int .i64 0] rfl (by kernel_rfl) (by kernel_rfl) (by kernel_rfl)
      (OpenSpec.preRow_of_cond 8 hx (by kernel_rfl) (fun k hk => by cases hk) (by kernel_rfl) (laid_met os))) ?_
  intro W base args ds gs before hval hW _ _ _ hL _ _
  exact contract H enc W base args ds gs before hval hW

theorem said : Rows.ProgJumpsSaid :=
  OpenClaim.holds_of_cond 4 Tryz.f4 rfl rfl rfl rfl rfl rfl rfl ⟨rfl, rfl, rfl, rfl, rfl⟩ rfl rfl rfl rfl rfl (by kernel_rfl) Tryz.func4 (by kernel_rfl)
    (of_decide_eq_true (by kernel_rfl)) (by unfold Func.isWrapper; first | (rw [if_pos (by decide +kernel)]; kernel_rfl) | (rw [if_neg (by decide +kernel)]; exact ⟨rfl, rfl⟩))
    (fun os started H enc _ F => by rw [OpenClaim.pre_eq_preRow]; exact lifted os started H enc F)

theorem plain (f : FuncId) (fn : Func) (hf : Tryz.pinned.checked.prog.funcNamed "gloss/glosslaw10.ProgJumps" = some f) (hfn : Tryz.pinned.checked.prog.funcs[f]? = some fn) :
    true = Tryz.pinned.checked.prog.looks [] ∧ ∀ (j : Nat) t, fn.params[j]? = some t → Tryz.pinned.checked.prog.wantsStandIn t = false := by
  obtain rfl : f = 4 := Option.some.inj ((show Tryz.prog.funcNamed "gloss/glosslaw10.ProgJumps" = some 4 by kernel_rfl).symm.trans hf) |>.symm
  obtain rfl : fn = Tryz.f4 := (Option.some.inj (Tryz.func4.symm.trans hfn)).symm
  refine ⟨by kernel_rfl, fun j t ht => ?_⟩
  rw [Tryz.params4] at ht
  obtain rfl : t = 3 := by simpa using Array.mem_of_getElem? ht
  exact (show Tryz.prog.wantsStandIn 3 = false by kernel_rfl)

/-- THE CARD -/
theorem card : Rows.ProgJumpsCardSaid :=
  Claim7.holds_tied_plain_at .later [] _ _ _ _ said (fun _ h => by cases h) (by kernel_rfl) (fun _ h => by cases h) progJumps_row_tie rfl ⟨rfl, rfl⟩ (by kernel_rfl) rfl plain (by kernel_rfl)
#print axioms card
end Go.Proofs.YtghmlonankhcgaaGreatDoor.progJumps
