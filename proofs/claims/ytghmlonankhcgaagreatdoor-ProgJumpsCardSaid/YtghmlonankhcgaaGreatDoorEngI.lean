import Derived.Test.YtghmlonankhcgaaGreatDoorEngH
import Derived.Laws.Externs
import Derived.ChangeSame
import Derived.ChangeMade
import Derived.Deep.DeepHandedRow
/- The engine, part I1: answers that hang on no heap; a table of answers. -/
namespace Go.Eng
set_option linter.unusedSectionVars false
set_option linter.unusedSimpArgs false

section
variable {RP : RPred} {P : Program} {C : Cfg} {E : Env}
variable {β β0 β' : Beta} {h h0 h' : Heap} {F F0 F' : Frz} {w w0 w' : World} {f : Nat}

/-- what leads to no block is told in any heap -/
theorem V.free {v : AV} {u : Value} (hv : V β h F w v u) : v.lt 0 = true → V β' h' F w v u := by
  induction hv with
  | bool b => intro _; exact .bool b
  | int k n => intro _; exact .int k n
  | str s => intro _; exact .str s
  | nilp => intro _; exact .nilp
  | nils a => intro _; exact .nils a
  | nilm => intro _; exact .nilm
  | nilf => intro _; exact .nilf
  | nili => intro _; exact .nili
  | agg cs us hl hv ih => intro hlt; simp only [AV.lt] at hlt; rw [lts_get] at hlt; exact .agg cs us hl fun j c u hc hu => ih j c u hc hu (hlt j c hc)
  | tup cs us hl hv ih => intro hlt; simp only [AV.lt] at hlt; rw [lts_get] at hlt; exact .tup cs us hl fun j c u hc hu => ih j c u hc hu (hlt j c hc)
  | clo f cs us hl hv ih => intro hlt; simp only [AV.lt] at hlt; rw [lts_get] at hlt; exact .clo f cs us hl fun j c u hc hu => ih j c u hc hu (hlt j c hc)
  | lst0 a cap => intro _; exact .lst0 a cap
  | lst xs a cap sz hc hs hz us hu hv ih =>
    intro hlt
    simp only [AV.lt] at hlt
    rw [lts_flat] at hlt
    exact .lst xs a cap sz hc hs hz us hu fun j c hj => ih j c hj (hlt c (List.mem_of_getElem? hj))
  | cref cs a hs us hu hv ih =>
    intro hlt
    simp only [AV.lt] at hlt
    rw [lts_get] at hlt
    exact .cref cs a hs us hu fun j c hj => ih j c hj (hlt j c hj)
  | _ => intro hlt; simp [AV.lt] at hlt

/-- AN ANSWER WITH AN EMPTY HEAP IS ONE WITH ANY -/
theorem Answers.any {g : Nat} {args : List AV} {v : AV} (hA : Answers RP P C g args [] v [] []) (hg : ∀ g c, C.glob g = some c → c.lt 0 = true) (hl : AV.lts 0 args = true) (h : Heap) : Answers RP P C g args h v h [] := by
  intro β F w us hR hG hV
  have hR0 : Rel RP (fun _ => none) F [] w := {
    lt := fun n b hb => by simp at hb
    blk := fun n b B hb => by simp at hb
    inj := fun n n' b hb => by simp at hb
    out := fun n b hb => by simp at hb
    apart := fun n b o hb => by simp at hb
    cell := hR.cell }
  have hG0 : GlobOK C (fun _ => none) [] F w := fun k c hk => (hG k c hk).free (hg k c hk)
  have hV0 : VL (fun _ => none) [] F w args us := ⟨hV.1, fun j c u hc hu => (hV.2 j c u hc hu).free (lts_get.1 hl j c hc)⟩
  refine (hA _ F w us hR0 hG0 hV0).mono fun u w' ⟨β1, F1, hI, hv⟩ => ?_
  have hold : ∀ b, b < w.heap.size → w'.heap[b]? = w.heap[b]? := fun b hb => hI.ext.old b hb (fun n hn => by simp at hn)
  have hE : Ext (· ∈ ([] : List Nat)) β F h w β F1 h w' := {
    len := Nat.le_refl _
    blk := fun n B hB => ⟨B, hB, .inl ⟨Kept.refl _, rfl, fun b hb => by unfold sizeAt; rw [hold b (hR.lt n b hb)]⟩⟩
    frz := hI.ext.frz
    old := fun b hb _ => hold b hb
    size := hI.ext.size
    news := fun n b hn => .inl ⟨hn, hR.out n b hn⟩
    newF := hI.ext.newF
    none_ := fun n _ hn => ⟨hn, rfl⟩
    os := hI.ext.os
    output := hI.ext.output
    tape := hI.ext.tape }
  have hR1 : Rel RP β F1 h w' := Rel.step hE hR (fun n b B hb hB hnc => absurd ⟨hb, hB, by simp⟩ hnc) (fun n b hb => Nat.lt_of_lt_of_le (hR.lt n b hb) hI.ext.size) hR.out hR.inj (fun n b o hb hF => by
      rcases hI.ext.newF b o hF with h1 | h1
      · exact hR.apart n b o hb h1
      · have := hR.lt n b hb; omega) (fun b o hF _ => hI.rel.cell b o hF)
  exact ⟨β, F1, ⟨hR1, hG.ext hE hR, hE, fun _ _ _ => rfl⟩, hv.free hv.lt⟩

/-- a table of answers -/
def memoG (l : List (List AV × AV)) (args : List AV) (h : Heap) : Option (AV × Heap × List Nat) :=
  match l with
  | [] => none
  | (as, v) :: l => cond (AV.beqs as args) (some (v, h, [])) (memoG l args h)

theorem memoG_ok {g : Nat} (hg : ∀ g c, C.glob g = some c → c.lt 0 = true) : ∀ {l : List (List AV × AV)}, (∀ p ∈ l, AV.lts 0 p.1 = true ∧ Answers RP P C g p.1 [] p.2 [] []) → ∀ args h v h' ws, memoG l args h = some (v, h', ws) → Answers RP P C g args h v h' ws
  | [], _, args, h, v, h', ws, hm => by simp [memoG] at hm
  | (as, x) :: l, hl, args, h, v, h', ws, hm => by
    unfold memoG at hm
    cases hb : AV.beqs as args with
    | true =>
      rw [hb] at hm
      simp only [cond_true, Option.some.injEq, Prod.mk.injEq] at hm
      obtain ⟨rfl, rfl, rfl⟩ := hm
      have := AV.beqs_eq hb
      subst this
      obtain ⟨h1, h2⟩ := hl _ (List.mem_cons_self ..)
      exact h2.any hg h1 _
    | false =>
      rw [hb] at hm
      exact memoG_ok hg (fun p hp => hl p (List.mem_cons_of_mem _ hp)) args h v h' ws hm

theorem memo_nil {g : Nat} : ∀ p ∈ ([] : List (List AV × AV)), AV.lts 0 p.1 = true ∧ Answers RP P C g p.1 [] p.2 [] [] := fun p hp => by simp at hp
theorem memo_cons {g : Nat} {a : List AV} {v : AV} {l : List (List AV × AV)} (h1 : AV.lts 0 a = true) (h2 : Answers RP P C g a [] v [] []) (hl : ∀ p ∈ l, AV.lts 0 p.1 = true ∧ Answers RP P C g p.1 [] p.2 [] []) :
    ∀ p ∈ (a, v) :: l, AV.lts 0 p.1 = true ∧ Answers RP P C g p.1 [] p.2 [] [] := fun p hp => by
  rcases List.mem_cons.1 hp with rfl | hp
  · exact ⟨h1, h2⟩
  · exact hl p hp

/-- an environment and a table besides -/
def Env.memo (E : Env) (f : Nat) (l : List (List AV × AV)) : Env := { fn := E.fn, ext := fun g => cond (Nat.beq g f) (some (memoG l)) (E.ext g) }

theorem EnvOK.memo (hE : EnvOK RP P C E) (hg : ∀ g c, C.glob g = some c → c.lt 0 = true) {l : List (List AV × AV)} (hl : ∀ p ∈ l, AV.lts 0 p.1 = true ∧ Answers RP P C f p.1 [] p.2 [] []) : EnvOK RP P C (E.memo f l) where
  fn := hE.fn
  name := hE.name
  ext := fun g gx hx args h v h' ws hr => by
    simp only [Env.memo] at hx
    cases hb : Nat.beq g f with
    | true =>
      rw [hb] at hx
      simp only [cond_true, Option.some.injEq] at hx
      subst hx
      have := Nat.eq_of_beq_eq_true hb
      subst this
      exact memoG_ok hg hl args h v h' ws hr
    | false =>
      rw [hb] at hx
      exact hE.ext g gx hx args h v h' ws hr

/-- an environment and a contract besides -/
def Env.put (E : Env) (f : Nat) (gx : List AV → Heap → Option (AV × Heap × List Nat)) : Env := { fn := E.fn, ext := fun g => cond (Nat.beq g f) (some gx) (E.ext g) }

theorem EnvOK.put (hE : EnvOK RP P C E) {gx : List AV → Heap → Option (AV × Heap × List Nat)} (hc : ∀ args h v h' ws, gx args h = some (v, h', ws) → Answers RP P C f args h v h' ws) : EnvOK RP P C (E.put f gx) where
  fn := hE.fn
  name := hE.name
  ext := fun g gy hx args h v h' ws hr => by
    simp only [Env.put] at hx
    cases hb : Nat.beq g f with
    | true =>
      rw [hb] at hx
      simp only [cond_true, Option.some.injEq] at hx
      subst hx
      have := Nat.eq_of_beq_eq_true hb
      subst this
      exact hc args h v h' ws hr
    | false =>
      rw [hb] at hx
      exact hE.ext g gy hx args h v h' ws hr

/-- the program's own functions, no contract -/
def Env.bare (fn : Nat → Option AFunc) : Env := { fn := fn, ext := fun _ => none }

theorem EnvOK.bare {fn : Nat → Option AFunc} (hfn : ∀ g af, fn g = some af → cfunc P C g = some af) (hn : (P.funcs.toList.all fun fn => !(fn.name == "runtime.NumGoroutine")) = true) : EnvOK RP P C (Env.bare fn) where
  fn := hfn
  name := fun g af fn _ hf => by
    have := List.all_eq_true.1 hn fn (Array.mem_of_getElem? hf).val
    simpa using this
  ext := fun g gx hx => by simp [Env.bare] at hx
end
end Go.Eng

/- The engine, part I2: contracts of the library: slices.Clone, bytealg.IndexByteString. -/
namespace Go.Eng
set_option linter.unusedSectionVars false
set_option linter.unusedSimpArgs false

section
variable {RP : RPred} {P : Program} {C : Cfg} {E : Env}
variable {β β0 β' : Beta} {h h0 h' : Heap} {F F0 F' : Frz} {w w0 w' : World} {f : Nat}

/-! slices.Clone -/
theorem eqnil_run {T e : TypeId} (ht : P.underlying T = some (.slice e)) (A : Option Addr) (n c : Nat) {ρ : Operand → Value} {o : Oper} {x : Operand} {yt : TypeId} (ho : o.op = .binOp .eql T x (.const (.slice none 0 0)) yt) (hx : ρ x = .slice A n c) (hy : ρ (.const (.slice none 0 0)) = .slice none 0 0) :
    (execOp ρ o).run P w = .ok (.value (.bool A.isNone)) w := by
  have hb : (do eqGuard .eql T x (.const (.slice none 0 0)) (.slice A n c) (.slice none 0 0); binOp .eql T (.slice A n c) (.slice none 0 0)).run P w = .ok (.bool A.isNone) w := by
    have hg : eqGuard .eql T x (.const (.slice none 0 0)) (.slice A n c) (.slice none 0 0) = pure () := rfl
    rw [hg, pure_bind]
    refine binOp_equal (b := A.isNone) 9999 rfl ?_ false (fun op hop => by rcases hop with rfl | rfl <;> rfl)
    unfold Op.equalIn
    simp only [Sem.run_bind, run_underlying ht, Result.andThen_ok]
    cases A <;> simp
  simp only [execOp, ho, hx, hy]
  simp only [Sem.run_bind] at hb ⊢
  rw [hb]; rfl

theorem elems_slice (_hR : Rel RP β F h w) {sz : Nat} {x : AV} {xs : List AV} (he : elems h sz x = some xs) {u : Value} (hv : V β h F w x u) : ∃ A n c, u = .slice A n c ∧ (A = none → xs = []) := by
  cases hv with
  | nils a => simp [elems] at he; subst he; exact ⟨a, 0, 0, rfl, fun _ => rfl⟩
  | lst0 a cap => simp [elems] at he; subst he; exact ⟨a, 0, cap, rfl, fun _ => rfl⟩
  | lst ys a cap sz' hc hs hz us hu hv => exact ⟨some a, _, cap, rfl, fun hA => by simp at hA⟩
  | slcX n ver s i o len c b e g es hb hh hl hf => exact ⟨_, len, c, rfl, fun hA => by simp at hA⟩
  | slcG n ver s i len c b a es us el fr hb hh hl hw hf hk ha =>
    refine ⟨a, len, c, rfl, fun hA => ?_⟩
    subst hA
    have hc : c = 0 := by
      rcases Nat.eq_zero_or_pos c with h0 | h0
      · exact h0
      · have := ha (.inl (by omega)); simp at this
    have hl0 : len = 0 := by omega
    subst hl0
    simp only [elems] at he
    split at he
    · simp at he
    · split at he
      · split at he
        · split at he
          · simp at he; exact he
          · simp at he
        · split at he
          · split at he
            · split at he
              · simp at he; exact he
              · simp at he
            · simp at he
          · simp at he
      · simp at he
  | slcS n ver s i o len cap a c hs =>
    simp only [elems] at he
    split at he
    · simp at he
    · cases hl : look h n ver with
      | none => rw [hl] at he; simp at he
      | some q =>
        obtain ⟨e, g, es⟩ := q
        exact absurd hs (not_stale (look_eq hl))
  | _ => simp [elems] at he

def cloneG (sz bytes : Nat) (args : List AV) (h : Heap) : Option (AV × Heap × List Nat) :=
  match args with
  | [x] => match elems h sz x with
    | some xs => match appendL h sz bytes .nils xs with
      | some (.val v) => some (v, h, [])
      | some (.eff v h' _) => some (v, h', [])
      | _ => none
    | none => none
  | _ => none

theorem appendL_nils {sz bytes : Nat} {xs : List AV} {r : ORes} (hr : appendL h sz bytes .nils xs = some r) : (xs = [] ∧ r = .val .nils) ∨ ∃ v, r = .eff v (h ++ [.cells 0 sz true xs]) none := by
  simp only [appendL] at hr
  split at hr
  · rename_i he
    simp at hr he; exact .inl ⟨he, hr.symm⟩
  · split at hr
    · simp at hr
    · simp at hr; exact .inr ⟨_, hr.symm⟩

theorem clone_ok (hP : ProgOK P) {g : Nat} {fn : Func} (hf : P.funcs[g]? = some fn) (hn : (fn.name == "runtime.NumGoroutine") = false) {T e : TypeId} {i0 i1 i2 i3 : Nat} {o0 o1 o2 o3 o4 o5 o6 o7 : Oper}
    (hb : fn.body = some (.seq (.region i0 #[o0] false) (.seq (.seq (.region i1 #[o1, o2] false) (.cond (.tmp 4) (.seq (.region i2 #[o3] false) .ret) .skip)) (.seq (.region i3 #[o4, o5, o6, o7] false) .ret))))
    (hnt : fn.ntmps = 8) (hres : fn.results = #[.tmp 2])
    (h0 : o0.op = .assign (.const (.slice none 0 0)) ∧ o0.dst = some 2 ∧ o0.guard = none) (h1 : o1.op = .move (.tmp 0) ∧ o1.dst = some 3 ∧ o1.guard = none)
    {yt : TypeId} (h2 : o2.op = .binOp .eql T (.tmp 3) (.const (.slice none 0 0)) yt ∧ o2.dst = some 4 ∧ o2.guard = none) (h3 : o3.op = .assign (.const (.slice none 0 0)) ∧ o3.dst = some 2 ∧ o3.guard = none)
    (h4 : o4.op = .buildSlice T 0 #[] ∧ o4.dst = some 5 ∧ o4.guard = none) (h5 : o5.op = .move (.tmp 0) ∧ o5.dst = some 6 ∧ o5.guard = none)
    (h6 : o6.op = .call { callee := .builtin .append, args := #[.tmp 5, .tmp 6], argTypes := #[T, T] } ∧ o6.dst = some 7 ∧ o6.guard = none) (h7 : o7.op = .assign (.tmp 7) ∧ o7.dst = some 2 ∧ o7.guard = none)
    (ht : P.underlying T = some (.slice e)) {sz : Nat} (hs : szOf P e = some sz) (hsz : sz ≠ 0) (hb0 : P.bytesOf e ≠ 0) {z : AV} (hz : zeroOf P e = some z)
    {args : List AV} {h : Heap} {v : AV} {h' : Heap} {ws : List Nat} (hr : cloneG sz (P.bytesOf e) args h = some (v, h', ws)) : Answers RP P C g args h v h' ws := by
  intro β F w us hR hG hV
  unfold cloneG at hr
  split at hr
  · rename_i x
    split at hr
    · rename_i xs hxs
      obtain ⟨u, rfl⟩ : ∃ u, us = #[u] := by
        have := hV.1
        simp at this
        exact ⟨us[0], by apply Array.ext; · simp [← this]
                         · intro i h1 h2; simp at h2; subst h2; rfl⟩
      have hx : V β h F w x u := hV.2 0 x u rfl rfl
      obtain ⟨A, n, c, rfl, hnil⟩ := elems_slice hR hxs hx
      refine .inl ⟨w, run_callFunc_body hf hn hb _ w, fun cs => ?_⟩
      let b : Frame := { (default : Frame) with fn := g, kind := .normal }
      let A0 : Act := { tmps := #[.slice A n c, undef, undef, undef, undef, undef, undef, undef], defers := [] }
      have henter : Frame.enter P g #[.slice A n c] .normal = b.at A0 [.code (.seq (.region i0 #[o0] false) (.seq (.seq (.region i1 #[o1, o2] false) (.cond (.tmp 4) (.seq (.region i2 #[o3] false) .ret) .skip)) (.seq (.region i3 #[o4, o5, o6, o7] false) .ret)))] := by
        simp only [Frame.enter, Frame.at, hf, hb, hnt, b, A0, Option.map_some, Option.getD_some, Option.bind_some]; rfl
      rw [henter]
      have want : ∀ {o : Oper} {y : Nat → Option Bool}, o.guard = none → Region.wanted o y = true := fun hg => by simp [Region.wanted, hg]
      -- the first half
      have pre : Steps P (lone (b.at A0 [.code (.seq (.region i0 #[o0] false) (.seq (.seq (.region i1 #[o1, o2] false) (.cond (.tmp 4) (.seq (.region i2 #[o3] false) .ret) .skip)) (.seq (.region i3 #[o4, o5, o6, o7] false) .ret)))]) cs w)
          (lone (b.at { tmps := #[.slice A n c, undef, .slice none 0 0, .slice A n c, .bool A.isNone, undef, undef, undef], defers := [] } [.code (.cond (.tmp 4) (.seq (.region i2 #[o3] false) .ret) .skip), .code (.seq (.region i3 #[o4, o5, o6, o7] false) .ret)]) cs w) := by
        refine .head step_seq (.head step_region (.head (step_op (o := o0) (u := .slice none 0 0) rfl (want h0.2.2) (w' := w) (x := .value (.slice none 0 0)) (by simp [execOp, h0.1, Act.eval]) (.inl rfl)) (.head step_region_end (.head step_seq (.head step_seq (.head step_region ?_))))))
        rw [h0.2.1]
        refine .head (step_op (o := o1) (u := .slice A n c) rfl (want h1.2.2) (w' := w) (x := .value (.slice A n c)) (by simp [execOp, h1.1, Act.eval, Act.put, A0]) (.inl rfl)) ?_
        rw [h1.2.1]
        refine .head (step_op (o := o2) (u := .bool A.isNone) rfl (want h2.2.2) (w' := w) (x := .value (.bool A.isNone)) (eqnil_run ht A n c h2.1 (by simp [Act.eval, Act.put, A0]) (by simp [Act.eval])) (.inl rfl)) ?_
        rw [h2.2.1]
        exact .one step_region_end
      cases A with
      | none =>
        have hx0 := hnil rfl
        subst hx0
        simp [appendL] at hr
        obtain ⟨rfl, rfl, rfl⟩ := hr
        refine ⟨.returned (.slice none 0 0), w, { b.at { tmps := #[.slice none n c, undef, .slice none 0 0, .slice none n c, .bool true, undef, undef, undef], defers := [] } [.code .ret, .code (.seq (.region i3 #[o4, o5, o6, o7] false) .ret)] with mode := .returning },
          ⟨_, rfl, β, F, Inv.start hR hG, .nils none⟩, pre.trans ?_, rfl, rfl, rfl, rfl, fn, hf, ?_⟩
        · refine .head (step_cond (t := true) (by simp [Act.eval])) (.head step_seq (.head step_region ?_))
          refine .head (step_op (o := o3) (u := .slice none 0 0) rfl (want h3.2.2) (w' := w) (x := .value (.slice none 0 0)) (by simp [execOp, h3.1, Act.eval]) (.inl rfl)) ?_
          rw [h3.2.1]
          exact .head step_region_end (.one step_ret)
        · simp [results, hres, Frame.at]
      | some A =>
        have mid : Steps P (lone (b.at { tmps := #[.slice (some A) n c, undef, .slice none 0 0, .slice (some A) n c, .bool false, undef, undef, undef], defers := [] } [.code (.cond (.tmp 4) (.seq (.region i2 #[o3] false) .ret) .skip), .code (.seq (.region i3 #[o4, o5, o6, o7] false) .ret)]) cs w)
            (lone (b.at { tmps := #[.slice (some A) n c, undef, .slice none 0 0, .slice (some A) n c, .bool false, undef, undef, undef], defers := [] } [.inRegion #[o4, o5, o6, o7] [0, 1, 2, 3], .code .ret]) cs w) :=
          .head (step_cond (t := false) (by simp [Act.eval])) (.head step_skip (.head step_seq (.one step_region)))
        obtain ⟨lv, lh, lw, l1, l2⟩ := lit_sound (t := T) (len := 0) (parts := #[]) (ps := []) hP hR ht hs hsz (by omega) hz .nil false (r := .val .nils) rfl
        simp only [resH, Option.some.injEq, Prod.mk.injEq] at l1
        obtain ⟨rfl, rfl, rfl⟩ := l1
        obtain ⟨ul, w1, β1, F1, g1, g2, g3, g4⟩ := l2
        have hsrc : srcA h sz x = some xs := by
          cases x <;> simp only [srcA] <;> first | exact hxs | (simp [elems] at hxs)
        obtain ⟨r, hap⟩ : ∃ r, appendL h sz (P.bytesOf e) .nils xs = some r := by
          cases hap : appendL h sz (P.bytesOf e) .nils xs with
          | some r => exact ⟨r, rfl⟩
          | none => rw [hap] at hr; simp at hr
        have hapA : appendA h sz (P.bytesOf e) .nils x = some r := by unfold appendA; rw [hsrc]; exact hap
        have hi : intTy P (#[T, T] : Array TypeId)[1]? = false := by simp [intTy, ht]
        obtain ⟨av, ah, aw, a1, a2⟩ := append_sound (ty := o6.type) (ts := #[T, T]) hP g2 rfl ht hs hi hb0 hsz hz g3 (hx.ext g4 hR) hapA
        obtain ⟨ua, w2, β2, F2, k1, k2, k3, k4⟩ := a2
        have hout : v = av ∧ h' = ah ∧ ws = [] ∧ aw = none ∧ ∀ n, n < h.length → ah[n]? = h[n]? := by
          rw [hap] at hr
          rcases appendL_nils hap with ⟨_, rfl⟩ | ⟨v0, rfl⟩
          · simp only [resH, Option.some.injEq, Prod.mk.injEq] at a1 hr
            obtain ⟨rfl, rfl, rfl⟩ := a1
            obtain ⟨rfl, rfl, rfl⟩ := hr
            exact ⟨rfl, rfl, rfl, rfl, fun _ _ => rfl⟩
          · simp only [resH, Option.some.injEq, Prod.mk.injEq] at a1 hr
            obtain ⟨rfl, rfl, rfl⟩ := a1
            obtain ⟨rfl, rfl, rfl⟩ := hr
            exact ⟨rfl, rfl, rfl, rfl, fun n hn => List.getElem?_append_left hn⟩
        obtain ⟨rfl, rfl, rfl, rfl, hsame⟩ := hout
        have hI1 : Inv RP C β F h w [] β1 F1 h w1 := (Inv.start hR hG).step g2 g4 (fun _ _ _ => rfl) (fun _ hn => hn) (fun n hn _ => by simp at hn)
        have hI2 : Inv RP C β F h w [] β2 F2 h' w2 := hI1.step k2 k4 (fun n hn _ => hsame n hn) (fun _ hn => hn) (fun n hn _ => by simp at hn)
        refine ⟨.returned ua, w2, { b.at { tmps := #[.slice (some A) n c, undef, ua, .slice (some A) n c, .bool false, ul, .slice (some A) n c, ua], defers := [] } [.code .ret] with mode := .returning },
          ⟨_, rfl, β2, F2, hI2, k3⟩, pre.trans (mid.trans ?_), rfl, rfl, rfl, rfl, fn, hf, ?_⟩
        · refine .head (step_op (o := o4) (u := ul) rfl (want h4.2.2) (w' := w1) (x := .value ul) (by simp [execOp, h4.1, g1]) (.inl rfl)) ?_
          rw [h4.2.1]
          refine .head (step_op (o := o5) (u := .slice (some A) n c) rfl (want h5.2.2) (w' := w1) (x := .value (.slice (some A) n c)) (by simp [execOp, h5.1, Act.eval, Act.put]) (.inl rfl)) ?_
          rw [h5.2.1]
          refine .head (step_op (o := o6) (u := ua) rfl (want h6.2.2) (w' := w2) (x := .value ua) ?_ (.inl rfl)) ?_
          · simp only [execOp, h6.1, Sem.run_bind, resolve, Sem.run_pure, Result.andThen_ok, invoke, builtin]
            have : (#[Operand.tmp 5, Operand.tmp 6].map (Act.eval (({ tmps := #[.slice (some A) n c, undef, .slice none 0 0, .slice (some A) n c, .bool false, undef, undef, undef], defers := [] } : Act).put (some 5) ul |>.put (some 6) (.slice (some A) n c)))) = #[ul, .slice (some A) n c] := by
              simp [Act.eval, Act.put]
            rw [this, k1]; rfl
          rw [h6.2.1]
          refine .head (step_op (o := o7) (u := ua) rfl (want h7.2.2) (w' := w2) (x := .value ua) (by simp [execOp, h7.1, Act.eval, Act.put]) (.inl rfl)) ?_
          rw [h7.2.1]
          exact .head step_region_end (.one step_ret)
        · simp [results, hres, Frame.at]
    · simp at hr
  · simp at hr

/-! bytealg.IndexByteString -/
def idxB (c : UInt8) : List UInt8 → Int → Int
  | [], _ => -1
  | b :: l, i => cond (b == c) i (idxB c l (i + 1))

theorem idxB_eq (c : UInt8) : ∀ (l : List UInt8) (k : Nat), idxB c l k = match (List.range l.length).find? (fun i => l.getD i default == c) with | some i => ((k + i : Nat) : Int) | none => -1
  | [], k => rfl
  | b :: l, k => by
    rw [List.length_cons, List.range_succ_eq_map, List.find?_cons]
    simp only [idxB, List.getD_cons_zero]
    cases hb : b == c with
    | true => simp
    | false =>
      rw [List.find?_map]
      have := idxB_eq c l (k + 1)
      have e : ((fun i => (b :: l).getD i default == c) ∘ Nat.succ) = fun i => l.getD i default == c := by funext i; simp
      rw [e]
      simp only [cond_false]
      have e2 : ((k : Int) + 1) = ((k + 1 : Nat) : Int) := by omega
      rw [e2, this]
      cases (List.range l.length).find? (fun i => l.getD i default == c) with
      | none => simp
      | some i => simp only [Option.map_some, Nat.succ_eq_add_one]; rw [show k + 1 + i = k + (i + 1) by omega]

theorem firstIdx_eq (s : List UInt8) (c : UInt8) : firstIdx ⟨s.toArray⟩ c = idxB c s 0 := by
  have h := idxB_eq c s 0
  simp only [Nat.zero_add] at h
  rw [show ((0 : Nat) : Int) = 0 from rfl] at h
  rw [h]
  unfold firstIdx
  have hs : (⟨s.toArray⟩ : ByteArray).size = s.length := by simp [ByteArray.size]
  rw [hs]
  have e : (fun i => (⟨s.toArray⟩ : ByteArray)[i]! == c) = fun i => s.getD i default == c := by
    funext i
    have : (⟨s.toArray⟩ : ByteArray)[i]! = s.getD i default := by
      rcases Nat.lt_or_ge i s.length with hi | hi
      · rw [getElem!_pos _ _ (by rw [hs]; exact hi)]
        show s.toArray[i] = _
        simp [List.getD_eq_getElem?_getD, List.getElem?_eq_getElem hi]
      · rw [getElem!_neg _ _ (by rw [hs]; omega)]
        simp [List.getD_eq_getElem?_getD, List.getElem?_eq_none_iff.2 hi]
    rw [this]
  rw [e]
  rfl

def indexG (args : List AV) (h : Heap) : Option (AV × Heap × List Nat) :=
  match args with
  | [.str s, .int .u8 c] => some (.int .i64 (idxB c.toNat.toUInt8 s 0), h, [])
  | _ => none

theorem VL.inv1 {x : AV} {us : Array Value} (hV : VL β h F w [x] us) : ∃ u, us = #[u] ∧ V β h F w x u := by
  have h1 := hV.1
  simp at h1
  have hs : us.size = 1 := h1.symm
  refine ⟨us[0], ?_, hV.2 0 x _ rfl (Array.getElem?_eq_getElem _)⟩
  apply Array.ext
  · simp [hs]
  · intro i h1 h2; simp at h2; subst h2; rfl

theorem VL.inv2 {x y : AV} {us : Array Value} (hV : VL β h F w [x, y] us) : ∃ u v, us = #[u, v] ∧ V β h F w x u ∧ V β h F w y v := by
  have h1 := hV.1
  simp at h1
  have hs : us.size = 2 := h1.symm
  refine ⟨us[0], us[1], ?_, hV.2 0 x _ rfl (Array.getElem?_eq_getElem _), hV.2 1 y _ rfl (Array.getElem?_eq_getElem _)⟩
  apply Array.ext
  · simp [hs]
  · intro i h1 h2
    simp at h2
    have : i = 0 ∨ i = 1 := by omega
    rcases this with rfl | rfl <;> rfl

theorem index_ok {g : Nat} {fn : Func} (hf : P.funcs[g]? = some fn) (hn : (fn.name == "runtime.NumGoroutine") = false) (hb : fn.body.isNone = true) (hn' : Extern.findNext fn = none) (he : Extern.find fn = some Extern.BytealgIndexByte.indexByte)
    {args : List AV} {h : Heap} {v : AV} {h' : Heap} {ws : List Nat} (hr : indexG args h = some (v, h', ws)) : Answers RP P C g args h v h' ws := by
  intro β F w us hR hG hV
  unfold indexG at hr
  split at hr
  · rename_i s c
    simp only [Option.some.injEq, Prod.mk.injEq] at hr
    obtain ⟨rfl, rfl, rfl⟩ := hr
    obtain ⟨u, u', rfl, hu, hu'⟩ := hV.inv2
    cases hu; cases hu'
    refine .inr ⟨_, w, ?_, β, F, Inv.start hR hG, .int .i64 _⟩
    rw [run_callFunc_extern hf hn hb hn' he, run_indexByte_string, firstIdx_eq]
    rfl
  · simp at hr
end
end Go.Eng

/- The engine, part J1: a program's tables are well formed; a closed law. -/
namespace Go.Eng
set_option linter.unusedSectionVars false
set_option linter.unusedSimpArgs false

section
variable {RP : RPred} {P : Program} {C : Cfg} {E : Env}

/-! what is asked of a program, by a check over its types -/
def typeB (P : Program) (t : TypeId) : Bool :=
  match P.info? t with
  | none => true
  | some i => (P.underlying t).isSome && (match P.underlying t with | some (.struct fs) => fs.toList.all fun fl => (szOf P fl.type).isSome | _ => true) &&
    (match i.zero with | some z => z.cells.size == i.size | none => true)

theorem progOK_of (hb : (List.range P.types.size).all (typeB P) = true) : ProgOK P := by
  have key : ∀ t, t < P.types.size → typeB P t = true := fun t h1 => List.all_eq_true.1 hb t (List.mem_range.2 h1)
  refine ⟨fun t i hi => ?_, fun fs t hlt ht fl hfl => ?_, fun t i z hlt hi hz => ?_⟩
  · by_cases hlt : t < P.types.size
    · have := key t hlt
      simp only [typeB, hi, Bool.and_eq_true] at this
      exact this.1.1
    · have hto := Tables.info?_beyond hlt hi
      unfold Program.underlying
      rw [hi]
      obtain ⟨desc, _⟩ := i
      cases desc <;> simp [TypeDesc.tableOnly] at hto ⊢
  · have := key t hlt
    have hi : ∃ i, P.info? t = some i := by
      unfold Program.underlying at ht
      split at ht
      · rename_i hx; exact ⟨_, hx⟩
      · rename_i hx; exact ⟨_, hx⟩
      · simp at ht
    obtain ⟨i, hi⟩ := hi
    simp only [typeB, hi, ht, Bool.and_eq_true] at this
    exact List.all_eq_true.1 this.1.2 fl hfl
  · have := key t hlt
    simp only [typeB, hi, hz, Bool.and_eq_true] at this
    simpa using this.2

/-- nothing of the world that was there is turned -/
structure Still (W W' : World) : Prop where
  os : W'.os = W.os
  output : W'.output = W.output
  heap : ∀ b, b < W.heap.size → W'.heap[b]? = W.heap[b]?

theorem Still.kept {W W' : World} (h : Still W W') (may : MemPlace → Prop) : W.keptBut W' may := by
  obtain ⟨_, _, h3⟩ := World.keptBut_refl W may
  refine ⟨h.os, h.output, fun i hi => ?_⟩
  rw [h.heap i hi]
  exact h3 i hi

theorem CallsTo.calls {g : Nat} {us : Array Value} {w : World} {K : Value → World → Prop} (hc : CallsTo P g us w K) {fn : Func} (hf : P.funcs[g]? = some fn) (hn : (fn.name == "runtime.NumGoroutine") = false) {c : Code} (hb : fn.body = some c) :
    Calls P g us w fun e w' => ∃ u, e = .returned u ∧ K u w' := by
  have hr := run_callFunc_body hf hn hb us w
  rcases hc with ⟨w1, h1, h2⟩ | ⟨u, w', h1, _⟩
  · rw [hr] at h1
    simp at h1; subst h1; exact h2
  · rw [hr] at h1; simp at h1

/-- A CLOSED LAW, AS THE EVALUATOR RUNS IT -/
theorem closed_calls {g : Nat} {v : AV} (hA : Answers RP P C g [] [] v [] []) (hg : ∀ g, C.glob g = none) {fn : Func} (hf : P.funcs[g]? = some fn) (hn : (fn.name == "runtime.NumGoroutine") = false) {c : Code} (hb : fn.body = some c) (W : World) :
    Calls P g #[] W fun e W' => ∃ u β F, e = .returned u ∧ V β [] F W' v u ∧ Still W W' := by
  have hR0 : Rel RP (fun _ => none) (fun _ _ => False) [] W := {
    lt := fun n b hb => by simp at hb
    blk := fun n b B hb => by simp at hb
    inj := fun n n' b hb => by simp at hb
    out := fun n b hb => by simp at hb
    apart := fun n b o hb => by simp at hb
    cell := fun _ _ h => h.elim }
  have hG0 : GlobOK C (fun _ => none) [] (fun _ _ => False) W := fun k c hk => by rw [hg k] at hk; simp at hk
  refine ((hA _ _ W #[] hR0 hG0 ⟨rfl, fun j c u hc => by simp at hc⟩).calls hf hn hb).mono fun e W' ⟨u, he, β', F', hI, hv⟩ => ⟨u, β', F', he, hv, hI.ext.os, hI.ext.output, fun b hb => hI.ext.old b hb (fun n hn => by simp at hn)⟩

/-- a run that the evaluator ended is an answer -/
theorem answers_of_run (hP : ProgOK P) (hm : P.follows .mixedOrders = true) (hE : EnvOK RP P C E) {n g : Nat} {args : List AV} {h : Heap} {v : AV} {h' : Heap} {ws : List Nat} (hr : run E n g args h = some (v, h', ws)) : Answers RP P C g args h v h' ws :=
  run_ok hP hE (draw_ok hP hm) n g args h v h' ws hr

/-- without the clause on a second call -/
theorem post_still {H : Type} {enc : TypeId × Value → H} {f : Func} {s : ChangeSpec} {apart fresh handsOn : Bool} {W W' : World} {args : Array Value} {v : Value} {ds gs : List (DataW H)} {before pa pv : List MemPlace}
    (hW : DataW.Whole enc P f.params.toList s.vars apart W args.toList ds gs before)
    (hres : ∀ (b : Nat) (sp : Nat → Bool) (hd : Bool), DataW.TrodAll enc P W' b sp hd f.resultTypes.toList (v.resultList f.resultTypes.size) (s.fn H (ds ++ gs)).results [])
    (hargs : ∀ sp : Nat → Bool, (∀ p ∈ before, sp p.block = true) → DataW.TrodAll enc P W' 0 sp true f.params.toList args.toList (s.fn H (ds ++ gs)).args pa)
    (hvars : ∀ sp : Nat → Bool, (∀ p ∈ before, sp p.block = true) → DataW.TrodVars enc P W' sp s.vars (s.fn H (ds ++ gs)).vars pv)
    (hps : before = pa ++ pv) (hk : W.keptBut W' (· ∈ before)) : s.post enc P f apart fresh handsOn false W args v W' := by
  have hold : ∀ p ∈ before, (fun b => decide (b < W.heap.size)) p.block = true := fun p hp => by simpa using hW.lt p hp
  refine ⟨ds, gs, before, [], pa, pv, hW, hres _ _ _, hargs _ hold, hvars _ hold, World.keptBut_mono (fun p hp => ⟨hp, ?_⟩) hk, fun hh => by cases hh⟩
  rw [hps, List.mem_append] at hp
  exact Or.inr hp

/-! the cells of a datum without memory -/
mutual
def dcells : DataW Unit → List Value
  | .lit l => [l.value]
  | .agg ds => dcellsL ds
  | _ => []
def dcellsL : List (DataW Unit) → List Value
  | [] => []
  | d :: l => dcells d ++ dcellsL l
end

/-- a package variable that holds a datum -/
def layIn (heap : Array Obj) (g : Nat) (d : DataW Unit) : Array Obj := heap.modify g fun
  | .cells _ t fr => .cells (dcells d).toArray t fr
  | o => o

def noRP : RPred where
  p := fun _ _ _ _ => False
  mono := fun h _ _ _ => h
end
end Go.Eng

