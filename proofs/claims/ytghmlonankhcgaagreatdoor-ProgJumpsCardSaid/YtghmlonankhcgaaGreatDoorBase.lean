/- What the evaluator is told of this program, and that it is so. -/
import Derived.Test.YtghmlonankhcgaaGreatDoorTie
import Derived.Test.YtghmlonankhcgaaGreatDoorCards
import Derived.Test.YtghmlonankhcgaaGreatDoorEngL
import Derived.WalkKit
import Derived.ProofKit
import Derived.OpenShut
import Derived.SevenTiedAt
namespace Go.Proofs.YtghmlonankhcgaaGreatDoor
open Go.Eng Go.ChangeShapes Go.WideShapes Go.ChangeAt Go.RowKit

/-- the functions whose memory outlives them -/
def leaks : List Nat := [27, 28, 29, 36, 60, 62, 63, 81, 82, 86, 106, 107, 108, 135, 162, 188, 238, 258]
def theC : Cfg where
  glob := fun _ => none
  live := fun f d => cond (Nat.beq f 51) true (cond (Nat.beq f 34) (!(Nat.beq d 17)) (false))
  pol := fun f => if leaks.contains f then .leak else .pure
  borrow := fun f => cond (Nat.beq f 26) false (cond (Nat.beq f 10) false (true))

def theRP : RPred := noRP

theorem progOK : ProgOK Tryz.prog := progOK_of (by kernel_rfl)
theorem mixed : Tryz.prog.follows .mixedOrders = true := by kernel_rfl
theorem names : (Tryz.prog.funcs.toList.all fun fn => !(fn.name == "runtime.NumGoroutine")) = true := by kernel_rfl
theorem boolT : Tryz.prog.underlying 4 = some .bool := by kernel_rfl

section
variable {RP : RPred}
theorem c115 (args : List AV) (h : Heap) (v : AV) (h' : Heap) (ws : List Nat) (hr : indexG args h = some (v, h', ws)) : Answers RP Tryz.prog theC 115 args h v h' ws :=
  index_ok Tryz.func115 (by kernel_rfl) (by kernel_rfl) (by kernel_rfl) (by kernel_rfl) hr
theorem b36 : Tryz.prog.bytesOf 4 = 1 := by kernel_rfl
theorem c36 (args : List AV) (h : Heap) (v : AV) (h' : Heap) (ws : List Nat) (hr : cloneG 1 1 args h = some (v, h', ws)) : Answers RP Tryz.prog theC 36 args h v h' ws :=
  clone_ok (T := 51) (e := 4) (sz := 1) (z := (zeroOf Tryz.prog 4).getD .nilp) progOK Tryz.func36 (by kernel_rfl) rfl rfl rfl ⟨rfl, rfl, rfl⟩ ⟨rfl, rfl, rfl⟩ ⟨rfl, rfl, rfl⟩ ⟨rfl, rfl, rfl⟩ ⟨rfl, rfl, rfl⟩ ⟨rfl, rfl, rfl⟩ ⟨rfl, rfl, rfl⟩ ⟨rfl, rfl, rfl⟩
    (by kernel_rfl) (by kernel_rfl) (by decide) (by rw [b36]; decide) (by kernel_rfl) (by rw [b36]; exact hr)
theorem b60 : Tryz.prog.bytesOf 36 = 392 := by kernel_rfl
theorem c60 (args : List AV) (h : Heap) (v : AV) (h' : Heap) (ws : List Nat) (hr : cloneG 40 392 args h = some (v, h', ws)) : Answers RP Tryz.prog theC 60 args h v h' ws :=
  clone_ok (T := 39) (e := 36) (sz := 40) (z := (zeroOf Tryz.prog 36).getD .nilp) progOK Tryz.func60 (by kernel_rfl) rfl rfl rfl ⟨rfl, rfl, rfl⟩ ⟨rfl, rfl, rfl⟩ ⟨rfl, rfl, rfl⟩ ⟨rfl, rfl, rfl⟩ ⟨rfl, rfl, rfl⟩ ⟨rfl, rfl, rfl⟩ ⟨rfl, rfl, rfl⟩ ⟨rfl, rfl, rfl⟩
    (by kernel_rfl) (by kernel_rfl) (by decide) (by rw [b60]; decide) (by kernel_rfl) (by rw [b60]; exact hr)
theorem b62 : Tryz.prog.bytesOf 65 = 24 := by kernel_rfl
theorem c62 (args : List AV) (h : Heap) (v : AV) (h' : Heap) (ws : List Nat) (hr : cloneG 2 24 args h = some (v, h', ws)) : Answers RP Tryz.prog theC 62 args h v h' ws :=
  clone_ok (T := 34) (e := 65) (sz := 2) (z := (zeroOf Tryz.prog 65).getD .nilp) progOK Tryz.func62 (by kernel_rfl) rfl rfl rfl ⟨rfl, rfl, rfl⟩ ⟨rfl, rfl, rfl⟩ ⟨rfl, rfl, rfl⟩ ⟨rfl, rfl, rfl⟩ ⟨rfl, rfl, rfl⟩ ⟨rfl, rfl, rfl⟩ ⟨rfl, rfl, rfl⟩ ⟨rfl, rfl, rfl⟩
    (by kernel_rfl) (by kernel_rfl) (by decide) (by rw [b62]; decide) (by kernel_rfl) (by rw [b62]; exact hr)
theorem b86 : Tryz.prog.bytesOf 31 = 88 := by kernel_rfl
theorem c86 (args : List AV) (h : Heap) (v : AV) (h' : Heap) (ws : List Nat) (hr : cloneG 9 88 args h = some (v, h', ws)) : Answers RP Tryz.prog theC 86 args h v h' ws :=
  clone_ok (T := 29) (e := 31) (sz := 9) (z := (zeroOf Tryz.prog 31).getD .nilp) progOK Tryz.func86 (by kernel_rfl) rfl rfl rfl ⟨rfl, rfl, rfl⟩ ⟨rfl, rfl, rfl⟩ ⟨rfl, rfl, rfl⟩ ⟨rfl, rfl, rfl⟩ ⟨rfl, rfl, rfl⟩ ⟨rfl, rfl, rfl⟩ ⟨rfl, rfl, rfl⟩ ⟨rfl, rfl, rfl⟩
    (by kernel_rfl) (by kernel_rfl) (by decide) (by rw [b86]; decide) (by kernel_rfl) (by rw [b86]; exact hr)

/-- the contracts of the library's functions, over a table of functions -/
def envOf (fn : Nat → Option AFunc) : Env := ((((((Env.bare fn).put 115 indexG).put 36 (cloneG 1 1)).put 60 (cloneG 40 392)).put 62 (cloneG 2 24)).put 86 (cloneG 9 88))
theorem envOf_ok {fn : Nat → Option AFunc} (hfn : ∀ g af, fn g = some af → cfunc Tryz.prog theC g = some af) : EnvOK RP Tryz.prog theC (envOf fn) :=
  ((((((EnvOK.bare hfn names).put c115).put c36).put c60).put c62).put c86)
end

theorem own : ownKnob Tryz.prog.godebug = none := by kernel_rfl

/-- A WORLD FOR THE WITNESS: the settled one, the listed variables holding what their initialisers lay. -/
noncomputable def laidWorld (os : Os) : World :=
  { World.holding Tryz.prog os ⟨#[], #[], []⟩ with heap := layIn (layIn (layIn (layIn (layIn ((World.holding Tryz.prog os ⟨#[], #[], []⟩).heap) 4 Rows.laid_math_bits_deBruijn32tab) 5 Rows.laid_math_bits_deBruijn64tab) 3 Rows.laid_internal_strconv_uint64pow10) 1 Rows.laid_unicode_utf8_acceptRanges) 0 Rows.laid_unicode_utf8_first }
end Go.Proofs.YtghmlonankhcgaaGreatDoor
