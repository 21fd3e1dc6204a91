import Derived.Test.YtghmlonankhcgaaGreatDoorEngK
/- The engine, part L0: runs without fuel, and their equations. -/
namespace Go.Eng
set_option linter.unusedSectionVars false
set_option linter.unusedSimpArgs false

section
variable (E : Env)
open Classical in
/-- what the items come to, with fuel enough -/
noncomputable def GO (m : Nat) (its : List AItem) (tm : Tm) (h : Heap) (wr : List Nat) : Option (Tm × Heap × List Nat) :=
  if hx : ∃ x n, go E m n its tm h wr = some x then some hx.choose else none
open Classical in
/-- what a call comes to, with fuel enough -/
noncomputable def RUN (f : Nat) (args : List AV) (h : Heap) : Option (AV × Heap × List Nat) :=
  if hx : ∃ x n, run E n f args h = some x then some hx.choose else none
end

section
variable {E : Env} {m : Nat} {tm : Tm} {h : Heap} {wr : List Nat}

theorem GO_iff {its : List AItem} {x : Tm × Heap × List Nat} : GO E m its tm h wr = some x ↔ ∃ n, go E m n its tm h wr = some x := by
  unfold GO
  constructor
  · intro hg
    split at hg
    · rename_i hx
      simp only [Option.some.injEq] at hg
      have := hx.choose_spec
      rw [hg] at this; exact this
    · simp at hg
  · rintro ⟨n, hn⟩
    have hx : ∃ x n, go E m n its tm h wr = some x := ⟨x, n, hn⟩
    rw [dif_pos hx]
    obtain ⟨n', hn'⟩ := hx.choose_spec
    have h1 := go_more (Nat.le_max_left n n') hn
    have h2 := go_more (Nat.le_max_right n n') hn'
    rw [h1] at h2
    exact h2.symm

theorem RUN_iff {f : Nat} {args : List AV} {x : AV × Heap × List Nat} : RUN E f args h = some x ↔ ∃ n, run E n f args h = some x := by
  unfold RUN
  constructor
  · intro hg
    split at hg
    · rename_i hx
      simp only [Option.some.injEq] at hg
      have := hx.choose_spec
      rw [hg] at this; exact this
    · simp at hg
  · rintro ⟨n, hn⟩
    have hx : ∃ x n, run E n f args h = some x := ⟨x, n, hn⟩
    rw [dif_pos hx]
    obtain ⟨n', hn'⟩ := hx.choose_spec
    have h1 := run_more (Nat.le_max_left n n') hn
    have h2 := run_more (Nat.le_max_right n n') hn'
    rw [h1] at h2
    exact h2.symm

/-- one step: what the items come to is what others come to -/
theorem GO_of {its its' : List AItem} {tm' : Tm} {h' : Heap} {wr' : List Nat} (he : ∀ n, go E m (n + 1) its tm h wr = go E m n its' tm' h' wr') : GO E m its tm h wr = GO E m its' tm' h' wr' := by
  apply Option.ext
  intro x
  rw [show (GO E m its tm h wr = some x) ↔ (GO E m its' tm' h' wr' = some x) from ?_]
  rw [GO_iff, GO_iff]
  constructor
  · rintro ⟨n, hn⟩
    exact ⟨n, by rw [← he n]; exact go_more (Nat.le_succ n) hn⟩
  · rintro ⟨n, hn⟩
    exact ⟨n + 1, by rw [he n]; exact hn⟩

theorem GO_nil : GO E m [] tm h wr = some (tm, h, wr) := GO_iff.2 ⟨1, by simp [go]⟩
theorem GO_inBlock {id : Nat} {k : List AItem} : GO E m (.inBlock id :: k) tm h wr = GO E m k tm h wr := GO_of fun n => by simp only [go]
theorem GO_inLoop {c : ACode} {k : List AItem} : GO E m (.inLoop c :: k) tm h wr = GO E m (.code c :: .inLoop c :: k) tm h wr := GO_of fun n => by simp only [go]
theorem GO_skip {k : List AItem} : GO E m (.code .skip :: k) tm h wr = GO E m k tm h wr := GO_of fun n => by simp only [go]
theorem GO_region {ops : List AOper} {k : List AItem} : GO E m (.code (.region false ops) :: k) tm h wr = GO E m (.ops ops :: k) tm h wr := GO_of fun n => by simp only [go]
theorem GO_seq {a b : ACode} {k : List AItem} : GO E m (.code (.seq a b) :: k) tm h wr = GO E m (.code a :: .code b :: k) tm h wr := GO_of fun n => by simp only [go]
theorem GO_block {id : Nat} {b : ACode} {k : List AItem} : GO E m (.code (.block id b) :: k) tm h wr = GO E m (.code b :: .inBlock id :: k) tm h wr := GO_of fun n => by simp only [go]
theorem GO_loop {b : ACode} {k : List AItem} : GO E m (.code (.loop b) :: k) tm h wr = GO E m (.inLoop b :: k) tm h wr := by
  rw [GO_inLoop]; exact GO_of fun n => by simp only [go]
theorem GO_ret {k : List AItem} : GO E m (.code .ret :: k) tm h wr = some (tm, h, wr) := GO_iff.2 ⟨1, by simp [go]⟩
theorem GO_ops_nil {k : List AItem} : GO E m (.ops [] :: k) tm h wr = GO E m k tm h wr := GO_of fun n => by simp only [go]

/-- the way out of a block -/
noncomputable def exitG (E : Env) (m : Nat) (tm : Tm) (h : Heap) (wr : List Nat) : Option (List AItem) → Option (Tm × Heap × List Nat)
  | some k => GO E m k tm h wr
  | none => none
theorem exitG_some {k : List AItem} : exitG E m tm h wr (some k) = GO E m k tm h wr := rfl
theorem GO_exit {id : Nat} {k : List AItem} : GO E m (.code (.exit id) :: k) tm h wr = exitG E m tm h wr (exitA id k) := by
  cases hx : exitA id k with
  | some k' => exact GO_of fun n => by simp only [go, hx]
  | none =>
    rw [show exitG E m tm h wr none = none from rfl, ← Option.not_isSome_iff_eq_none, Option.isSome_iff_exists]
    rintro ⟨x, hg⟩
    obtain ⟨n, hn⟩ := GO_iff.1 hg
    cases n <;> simp [go, hx] at hn

noncomputable def condG (E : Env) (m : Nat) (a b : ACode) (k : List AItem) (tm : Tm) (h : Heap) (wr : List Nat) : AV → Option (Tm × Heap × List Nat)
  | .bool true => GO E m (.code a :: k) tm h wr
  | .bool false => GO E m (.code b :: k) tm h wr
  | _ => none
theorem condG_true {a b : ACode} {k : List AItem} : condG E m a b k tm h wr (.bool true) = GO E m (.code a :: k) tm h wr := rfl
theorem condG_false {a b : ACode} {k : List AItem} : condG E m a b k tm h wr (.bool false) = GO E m (.code b :: k) tm h wr := rfl
theorem GO_cond {c : Opd} {a b : ACode} {k : List AItem} : GO E m (.code (.cond c a b) :: k) tm h wr = condG E m a b k tm h wr (evo tm c) := by
  have none_ : (∀ t, evo tm c ≠ .bool t) → GO E m (.code (.cond c a b) :: k) tm h wr = none := fun hne => by
    rw [← Option.not_isSome_iff_eq_none, Option.isSome_iff_exists]
    rintro ⟨x, hg⟩
    obtain ⟨n, hn⟩ := GO_iff.1 hg
    cases n with
    | zero => simp [go] at hn
    | succ n =>
      unfold go at hn
      dsimp only at hn
      split at hn
      · rename_i hb; exact hne _ hb
      · rename_i hb; exact hne _ hb
      · simp at hn
  cases hv : evo tm c with
  | bool t =>
    cases t with
    | true => exact GO_of fun n => by rw [go]; simp only [hv]
    | false => exact GO_of fun n => by rw [go]; simp only [hv]
  | _ => rw [none_ (fun t => by rw [hv]; simp)]; rfl

noncomputable def afterCall (E : Env) (m : Nat) (k : List AItem) (d : Option Nat) (tm : Tm) (wr : List Nat) : Option (AV × Heap × List Nat) → Option (Tm × Heap × List Nat)
  | some (v, h', ws) => GO E m k (putT tm d v) h' (addW m wr ws)
  | none => none
noncomputable def afterOp (E : Env) (m : Nat) (k : List AItem) (d : Option Nat) (tm : Tm) (h : Heap) (wr : List Nat) : Option ORes → Option (Tm × Heap × List Nat)
  | some (.val v) => GO E m k (putT tm d v) h wr
  | some (.eff v h' w) => GO E m k (putT tm d v) h' (wrA m wr w)
  | some (.call f args) => afterCall E m k d tm wr (RUN E f args h)
  | none => none
theorem afterCall_some {k : List AItem} {d : Option Nat} {v : AV} {h' : Heap} {ws : List Nat} : afterCall E m k d tm wr (some (v, h', ws)) = GO E m k (putT tm d v) h' (addW m wr ws) := rfl
theorem afterOp_val {k : List AItem} {d : Option Nat} {v : AV} : afterOp E m k d tm h wr (some (.val v)) = GO E m k (putT tm d v) h wr := rfl
theorem afterOp_eff {k : List AItem} {d : Option Nat} {v : AV} {h' : Heap} {w : Option Nat} : afterOp E m k d tm h wr (some (.eff v h' w)) = GO E m k (putT tm d v) h' (wrA m wr w) := rfl
theorem afterOp_call {k : List AItem} {d : Option Nat} {f : Nat} {args : List AV} : afterOp E m k d tm h wr (some (.call f args)) = afterCall E m k d tm wr (RUN E f args h) := rfl

/-- an operation without a guard -/
theorem GO_op {d : Option Nat} {op : AOp} {bf : Nat} {os : List AOper} {k : List AItem} : GO E m (.ops (⟨d, op, none, bf⟩ :: os) :: k) tm h wr = afterOp E m (.ops os :: k) d tm h wr (aop h (evo tm) op) := by
  cases ha : aop h (evo tm) op with
  | none =>
    rw [show afterOp E m (.ops os :: k) d tm h wr none = none from rfl, ← Option.not_isSome_iff_eq_none, Option.isSome_iff_exists]
    rintro ⟨x, hg⟩
    obtain ⟨n, hn⟩ := GO_iff.1 hg
    cases n <;> simp [go, wants, ha] at hn
  | some q =>
    cases q with
    | val v => exact GO_of fun n => by rw [go]; simp only [wants, ha, if_true]
    | eff v h' w => exact GO_of fun n => by rw [go]; simp only [wants, ha, if_true]
    | call f args =>
      rw [afterOp_call]
      apply Option.ext
      intro x
      rw [GO_iff]
      constructor
      · rintro ⟨n, hn⟩
        cases n with
        | zero => simp [go] at hn
        | succ n =>
          rw [go] at hn
          simp only [wants, ha, if_true] at hn
          cases hr : run E n f args h with
          | none => rw [hr] at hn; simp at hn
          | some y =>
            obtain ⟨v, h', ws⟩ := y
            rw [hr] at hn
            rw [RUN_iff.2 ⟨n, hr⟩, afterCall_some]
            exact GO_iff.2 ⟨n, hn⟩
      · intro hg
        cases hr : RUN E f args h with
        | none => rw [hr] at hg; simp [afterCall] at hg
        | some y =>
          obtain ⟨v, h', ws⟩ := y
          rw [hr, afterCall_some] at hg
          obtain ⟨n1, h1⟩ := RUN_iff.1 hr
          obtain ⟨n2, h2⟩ := GO_iff.1 hg
          refine ⟨max n1 n2 + 1, ?_⟩
          rw [go]
          simp only [wants, ha, if_true]
          rw [run_more (Nat.le_max_left _ _) h1]
          exact go_more (Nat.le_max_right _ _) h2

/-- a guarded operation -/
theorem GO_guard {d : Option Nat} {op : AOp} {t : Nat} {w : Bool} {bf : Nat} {os : List AOper} {k : List AItem} : GO E m (.ops (⟨d, op, some (t, w), bf⟩ :: os) :: k) tm h wr =
    if wants tm (some (t, w)) = true then GO E m (.ops (⟨d, op, none, bf⟩ :: os) :: k) tm h wr else GO E m (.ops os :: k) (putT tm d undefA) h wr := by
  by_cases hw : wants tm (some (t, w)) = true
  · rw [if_pos hw]
    apply Option.ext
    intro x
    rw [GO_iff, GO_iff]
    have : ∀ n, go E m n (.ops (⟨d, op, some (t, w), bf⟩ :: os) :: k) tm h wr = go E m n (.ops (⟨d, op, none, bf⟩ :: os) :: k) tm h wr := fun n => by
      cases n with
      | zero => simp [go]
      | succ n =>
        rw [go, go]
        simp only [hw, if_true]
        rw [show wants tm none = true from rfl]
        simp only [if_true]
    simp only [this]
  · rw [if_neg hw]
    exact GO_of fun n => by rw [go]; rw [if_neg hw]

/-! calls -/
theorem RUN_ext {f : Nat} {g : List AV → Heap → Option (AV × Heap × List Nat)} (hx : E.ext f = some g) (args : List AV) : RUN E f args h = g args h := by
  apply Option.ext
  intro x
  rw [RUN_iff]
  constructor
  · rintro ⟨n, hn⟩
    cases n with
    | zero => simp [run] at hn
    | succ n => unfold run at hn; simp only [hx] at hn; exact hn
  · intro hg; exact ⟨1, by unfold run; simp only [hx]; exact hg⟩

theorem finish_GO {af : AFunc} {h0 : Heap} {its : List AItem} {x : AV × Heap × List Nat} : finish af h0 (GO E m its tm h wr) = some x ↔ ∃ n, finish af h0 (go E m n its tm h wr) = some x := by
  constructor
  · intro hf
    obtain ⟨y, hy⟩ := finish_some hf
    obtain ⟨n, hn⟩ := GO_iff.1 hy
    exact ⟨n, by rw [hn, ← hy]; exact hf⟩
  · rintro ⟨n, hn⟩
    obtain ⟨y, hy⟩ := finish_some hn
    rw [GO_iff.2 ⟨n, hy⟩, ← hy]; exact hn

theorem RUN_pure {f : Nat} {af : AFunc} (hx : E.ext f = none) (hf : E.fn f = some af) (hp : af.pol = .pure) {args : List AV} (hs : (AV.hasSlcs args && af.borrow) = false) :
    RUN E f args h = finish af h (GO E h.length [.code af.body] (AV.nrms args ++ List.replicate (af.ntmps - args.length) undefA) h []) := by
  apply Option.ext
  intro x
  rw [RUN_iff, finish_GO]
  constructor
  · rintro ⟨n, hn⟩
    cases n with
    | zero => simp [run] at hn
    | succ n =>
      unfold run at hn
      simp only [hx, hf, hp] at hn
      rw [if_neg (by rw [hs]; simp)] at hn
      exact ⟨n, hn⟩
  · rintro ⟨n, hn⟩
    refine ⟨n + 1, ?_⟩
    unfold run
    simp only [hx, hf, hp]
    rw [if_neg (by rw [hs]; simp)]
    exact hn

theorem RUN_leak {f : Nat} {af : AFunc} (hx : E.ext f = none) (hf : E.fn f = some af) (hp : af.pol = .leak) (args : List AV) :
    RUN E f args h = finish af h (GO E h.length [.code af.body] (args ++ List.replicate (af.ntmps - args.length) undefA) h []) := by
  apply Option.ext
  intro x
  rw [RUN_iff, finish_GO]
  constructor
  · rintro ⟨n, hn⟩
    cases n with
    | zero => simp [run] at hn
    | succ n =>
      unfold run at hn
      simp only [hx, hf, hp] at hn
      exact ⟨n, hn⟩
  · rintro ⟨n, hn⟩
    refine ⟨n + 1, ?_⟩
    unfold run
    simp only [hx, hf, hp]
    exact hn
end

section
variable {RP : RPred} {P : Program} {C : Cfg} {E : Env}
theorem answers_of_RUN (hP : ProgOK P) (hm : P.follows .mixedOrders = true) (hE : EnvOK RP P C E) {g : Nat} {args : List AV} {h : Heap} {v : AV} {h' : Heap} {ws : List Nat} (hr : RUN E g args h = some (v, h', ws)) : Answers RP P C g args h v h' ws := by
  obtain ⟨n, hn⟩ := RUN_iff.1 hr
  exact answers_of_run hP hm hE hn
end
end Go.Eng

/- The engine, part L1: a number is brought into bounds. -/
namespace Go.Eng
set_option linter.unusedSectionVars false
set_option linter.unusedSimpArgs false

def afWithin : AFunc := ⟨24, [(6, none)], (.seq (.region false [⟨(some 6), .mv (.const (.int .i64 0)), none, 0⟩]) (.seq (.region false [⟨(some 7), .mv (.tmp 0), none, 0⟩, ⟨(some 8), 
  .mv (.tmp 2), none, 0⟩, ⟨(some 9), .mv (.tmp 1), none, 0⟩, ⟨(some 10), .bin .sub (.tmp 8) (.tmp 9), none, 0⟩, ⟨(some 11), .bin .add (.tmp 10) (.const (.int .i64 1)), 
  none, 0⟩, ⟨(some 12), .bin .rem (.tmp 7) (.tmp 11), none, 0⟩, ⟨(some 0), .mv (.tmp 12), none, 0⟩]) (.seq (.seq (.region false [⟨(some 13), .mv (.tmp 0), none, 0⟩, 
  ⟨(some 14), .bin .lss (.tmp 13) (.const (.int .i64 0)), none, 0⟩]) (.cond (.tmp 14) (.region false [⟨(some 15), .mv (.tmp 0), none, 0⟩, ⟨(some 16), .mv (.tmp 2), none, 
  0⟩, ⟨(some 17), .bin .add (.tmp 15) (.tmp 16), none, 0⟩, ⟨(some 18), .mv (.tmp 1), none, 0⟩, ⟨(some 19), .bin .sub (.tmp 17) (.tmp 18), none, 0⟩, ⟨(some 20), 
  .bin .add (.tmp 19) (.const (.int .i64 1)), none, 0⟩, ⟨(some 0), .mv (.tmp 20), none, 0⟩]) .skip)) (.seq (.region false [⟨(some 21), .mv (.tmp 1), none, 0⟩, 
  ⟨(some 22), .mv (.tmp 0), none, 0⟩, ⟨(some 23), .bin .add (.tmp 21) (.tmp 22), none, 0⟩, ⟨(some 6), .mv (.tmp 23), none, 0⟩]) .ret)))), .pure, true⟩

theorem emod_of_tmod (n m : Int) (hm : 0 < m) : (n.tmod m < 0 → n.tmod m + m = n % m) ∧ (¬ n.tmod m < 0 → n.tmod m = n % m) := by
  rcases Int.lt_or_le n 0 with hn | hn
  · have h1 : n.tmod m = -((-n) % m) := by
      have := Int.neg_tmod (-n) m
      rw [Int.neg_neg] at this
      rw [this, Int.tmod_eq_emod_of_nonneg (by omega)]
    have h2 := Int.emod_nonneg (-n) (show m ≠ 0 by omega)
    have h3 := Int.emod_lt_of_pos (-n) hm
    have h4 := Int.emod_nonneg n (show m ≠ 0 by omega)
    have h5 := Int.emod_lt_of_pos n hm
    have h6 := Int.mul_ediv_add_emod n m
    have h7 := Int.mul_ediv_add_emod (-n) m
    generalize n % m = a at *
    generalize (-n) % m = b at *
    generalize n / m = q at *
    generalize (-n) / m = p at *
    have h8 : m * (q + p) = -(a + b) := by rw [Int.mul_add]; omega
    have h9 : q + p = 0 ∨ q + p = -1 := by
      rcases Int.lt_or_le (q + p) (-1) with h | h
      · have : m * (q + p) ≤ m * (-2) := Int.mul_le_mul_of_nonneg_left (by omega) (by omega)
        omega
      · rcases Int.lt_or_le 0 (q + p) with h' | h'
        · have : m * 1 ≤ m * (q + p) := Int.mul_le_mul_of_nonneg_left (by omega) (by omega)
          omega
        · omega
    rw [h1]
    rcases h9 with h | h <;> rw [h] at h8 <;> constructor <;> intro hh <;> omega
  · have h1 : n.tmod m = n % m := Int.tmod_eq_emod_of_nonneg hn
    have h2 := Int.emod_nonneg n (show m ≠ 0 by omega)
    rw [h1]
    exact ⟨fun h => by omega, fun _ => rfl⟩

theorem within_RUN {E : Env} {g : Nat} (hx : E.ext g = none) (hf : E.fn g = some afWithin) (n lo hi : Int) (h1 : -4294967296 ≤ lo) (h2 : lo ≤ hi) (h3 : hi ≤ 4294967296) (h : Heap) :
    RUN E g [.int .i64 n, .int .i64 lo, .int .i64 hi] h = some (.int .i64 (withinZ n lo hi), h, []) := by
  have w1 : IntKind.wrap .i64 (hi - lo) = hi - lo := wrap64 (by omega) (by omega)
  have w2 : IntKind.wrap .i64 (hi - lo + 1) = hi - lo + 1 := wrap64 (by omega) (by omega)
  have hne : ¬ hi - lo + 1 = 0 := by omega
  obtain ⟨e1, e2⟩ := emod_of_tmod n (hi - lo + 1) (by omega)
  have b1 := Int.emod_nonneg n (show hi - lo + 1 ≠ 0 by omega)
  have b2 := Int.emod_lt_of_pos n (show 0 < hi - lo + 1 by omega)
  have wz : IntKind.wrap .i64 (withinZ n lo hi) = withinZ n lo hi := wrap64 (by have := withinZ_ge (n := n) h2; omega) (by have := withinZ_le (n := n) h2; omega)
  rw [RUN_pure hx hf rfl rfl]
  by_cases hd : n.tmod (hi - lo + 1) < 0
  · have e := e1 hd
    have w3 : IntKind.wrap .i64 (n.tmod (hi - lo + 1) + hi) = n.tmod (hi - lo + 1) + hi := wrap64 (by omega) (by omega)
    have w4 : IntKind.wrap .i64 (n.tmod (hi - lo + 1) + hi - lo) = n.tmod (hi - lo + 1) + hi - lo := wrap64 (by omega) (by omega)
    have w5 : IntKind.wrap .i64 (n.tmod (hi - lo + 1) + hi - lo + 1) = n.tmod (hi - lo + 1) + hi - lo + 1 := wrap64 (by omega) (by omega)
    have fin : lo + (n.tmod (hi - lo + 1) + hi - lo + 1) = withinZ n lo hi := by unfold withinZ; omega
    simp [afWithin, AV.nrms, AV.nrm, GO_seq, GO_region, GO_op, GO_ops_nil, GO_cond, condG_true, GO_skip, GO_ret, afterOp_val, evo, aop, binA, putT, w1, w2, w3, w4, w5, hne, hd, fin, wz, finish, oneOr, frz, AV.lt]
  · have e := e2 hd
    have fin : lo + n.tmod (hi - lo + 1) = withinZ n lo hi := by unfold withinZ; omega
    simp [afWithin, AV.nrms, AV.nrm, GO_seq, GO_region, GO_op, GO_ops_nil, GO_cond, condG_false, GO_skip, GO_ret, afterOp_val, evo, aop, binA, putT, w1, w2, hne, hd, fin, wz, finish, oneOr, frz, AV.lt]
end Go.Eng

