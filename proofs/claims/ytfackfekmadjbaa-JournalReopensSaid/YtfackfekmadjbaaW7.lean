/- The program's reader: sizes. -/
import Derived.Test.YtfackfekmadjbaaW6
set_option linter.unusedSimpArgs false
set_option linter.unusedVariables false
set_option linter.constructorNameAsVariable false
namespace Go.Proofs
open Go.Vc
set_option maxRecDepth 10000

/-- A reading's end, as data. -/
def toOk {α : Type} (x : Except Int (α × List Int)) (φ : α → Value → World → Prop) : Option (List Int × (Value → World → Prop)) :=
  match x with
  | .ok (a, rest) => some (rest, φ a)
  | .error _ => none
def toEr {α : Type} (x : Except Int (α × List Int)) : Int :=
  match x with
  | .ok _ => 0
  | .error e => e
def numR (n : Nat) (bs : List Int) : Except Int (Int × List Int) := if n ≤ bs.length then .ok (valF (bs.take n), bs.drop n) else .error 4
def szK (f : Int) : Nat := if f = 253 then 2 else if f = 254 then 4 else 8
def szR : List Int → Except Int (Int × List Int)
  | [] => .error 4
  | f :: t => if f < 253 then .ok (f, t) else if t.length < szK f then .error 4 else if wideF (valF (t.take (szK f))) ≠ szK f then .error 3
    else if 33554432 < valF (t.take (szK f)) then .error 2 else .ok (valF (t.take (szK f)), t.drop (szK f))

theorem REnd.of_er {w w' : World} {r B : Nat} {e : Int} {ok : Option (List Int × (Value → World → Prop))} {er er' : Int} {en : Ending} (h : REnd w r B e ok er en w') (hk : ok = none → er' = er) : REnd w r B e ok er' en w' := by
  refine ⟨h.1, ?_⟩
  have h2 := h.2
  cases ok with
  | some p => exact h2
  | none => rw [hk rfl]; exact h2
theorem num_ok (w : World) (r B : Nat) (v : Value) (bs : List Int) (e : Int) (n : Nat) (h : RAt w r B v bs e) (hb : byt bs) (hn : n ≤ 8) :
    Calls Try.prog 62 #[.pointer (some ⟨r, 0, none⟩), .int .i64 n] w (REnd w r B e (toOk (numR n bs) fun x u _ => u = .int .u64 x) (toEr (numR n bs))) := by
  refine (numb_ok w r B v bs e n h hb hn).mono fun en w' hR => ?_
  unfold numR
  by_cases hl : n ≤ bs.length
  · rw [if_pos hl] at hR ⊢
    exact hR.of_er fun h => by cases h
  · rw [if_neg hl] at hR ⊢
    exact hR

theorem szK_is {f : Int} (h1 : 253 ≤ f) (h2 : f ≤ 255) : IntKind.i64.wrap (2 * 2 ^ Nat.min (f - 253).toNat IntKind.i64.bits) = (szK f : Nat) ∧ (szK f ≤ 8) := by
  have : f = 253 ∨ f = 254 ∨ f = 255 := by omega
  rcases this with rfl | rfl | rfl <;> exact ⟨rfl, by decide⟩
end Go.Proofs
