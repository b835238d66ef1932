/- The program's reader: its methods. -/
import Derived.Test.YthjgmajfkfhdaaaW7
set_option linter.unusedSimpArgs false
set_option linter.unusedVariables false
set_option linter.constructorNameAsVariable false
namespace Go.Proofs
open Go.Vc
set_option maxRecDepth 10000

/-- What a method of the reader leaves. -/
structure RTo {α : Type} (w w' : World) (r B : Nat) (v : Value) (bs : List Int) (e : Int) (x : Except Int (α × List Int)) (φ : α → Value → World → Prop) (z u : Value) : Prop where
  keep : Keep (fun i => i = r) w w'
  was : e ≠ 0 → u = z ∧ RAt w' r B v bs e
  ok : e = 0 → ∀ a rest, x = .ok (a, rest) → φ a u w' ∧ ∃ v', RAt w' r B v' rest 0
  er : e = 0 → ∀ n, x = .error n → u = z ∧ RAt w' r B v bs n
theorem try_ok {α : Type} {f cl ty : Nat} {z : Value} (hC : cfgL Try.prog f = some (19, 8, (cTry ty z cl).map Vc.Node.bare)) (hD : cfgL Try.prog cl = some (27, 9, (cClo z).map Vc.Node.bare)) (hpc : plainF Try.prog cl = true) (hz : z.oneCell' = true) (hty : ty ≠ 80)
    (w : World) (g : Nat) (cap : Array Value) (hpg : plainF Try.prog g = true) (r B : Nat) (v : Value) (bs : List Int) (e : Int) (h : RAt w r B v bs e) (hBw : B < w.heap.size) (x : Except Int (α × List Int)) (φ : α → Value → World → Prop)
    (hread : e = 0 → ∀ w1, Ext w w1 → Calls Try.prog g (#[.pointer (some ⟨r, 0, none⟩)] ++ cap) w1 (REnd w1 r B 0 (toOk x φ) (toEr x)))
    (hφ1 : ∀ a u w', φ a u w' → u.oneCell' = true)
    (hφ2 : ∀ a u w' w'' p c, w.heap.size ≤ p → w'.heap[p]? = some (.cells c ty (0, 0)) → Keep (fun i => i = p) w' w'' → φ a u w' → φ a u w'') :
    Calls Try.prog f #[.pointer (some ⟨r, 0, none⟩), .func (.func g) #[] cap] w (Ret fun u w' => RTo w w' r B v bs e x φ z u) := by
  refine try_gen hC hD hpc hz hty w g cap hpg r B v bs e h hBw (toOk x φ) (toEr x) hread ?_ ?_ _ ?_ ?_ ?_
  · intro rest ψ hok
    cases x with
    | ok p => simp only [toOk, Option.some.injEq, Prod.mk.injEq] at hok; obtain ⟨_, rfl⟩ := hok; exact hφ1 _
    | error n => cases hok
  · intro rest ψ hok
    cases x with
    | ok p => simp only [toOk, Option.some.injEq, Prod.mk.injEq] at hok; obtain ⟨_, rfl⟩ := hok; exact hφ2 _
    | error n => cases hok
  · intro he w' hk hR
    exact ⟨hk.mono fun _ h => h.elim, fun _ => ⟨rfl, hR⟩, fun h => absurd h he, fun h => absurd h he⟩
  · intro he rest ψ hok u w' v' hk hu hR
    cases x with
    | ok p =>
      simp only [toOk, Option.some.injEq, Prod.mk.injEq] at hok
      obtain ⟨rfl, rfl⟩ := hok
      exact ⟨hk, fun h => absurd he h, fun _ a rest hx => (by cases hx; exact ⟨hu, v', hR⟩), fun _ n hx => (by cases hx)⟩
    | error n => cases hok
  · intro he hok w' hk hR
    cases x with
    | ok p => cases hok
    | error n => exact ⟨hk, fun h => absurd he h, fun _ a rest hx => (by cases hx), fun _ m hx => (by cases hx; exact ⟨rfl, hR⟩)⟩

theorem u641_ok (w : World) (r B : Nat) (v : Value) (bs : List Int) (e : Int) (h : RAt w r B v bs e) (hb : byt bs) :
    Calls Try.prog 43 #[.pointer (some ⟨r, 0, none⟩)] w (REnd w r B e (toOk (numR 8 bs) fun x u _ => u = .int .u64 x) (toEr (numR 8 bs))) := by
  refine calls_of_cfg c43_ok (Nat.le_of_ble_eq_true rfl) ?_
  simp only [argE_nil, argE_cons, Nat.reduceAdd, Nat.zero_add]
  (refine W_at c43_ok ?_; refine ⟨_, rfl, ?_⟩; simp (disch := first | omega | assumption | rfl | (simp only [vcS] <;> omega) | fail) only [↓ptV_l, ↓vcA, vcB, ↓vcD, vcE, ↓reduceIte, Nat.reduceEqDiff, Nat.reduceAdd, Nat.reduceMul, Nat.reduceLeDiff, Int.reduceLE, Int.reduceLT, Int.reduceEq, Int.reduceToNat, Int.reduceAdd, Int.reduceSub, Int.reduceMul, Int.reduceNeg, reduceCtorEq, Option.bind_some, Option.map_some, List.length_cons, List.length_nil, vcM, List.getElem?_toArray, List.getElem?_cons_zero, List.getElem?_cons_succ])
  (refine W_at c43_ok ?_; refine ⟨_, rfl, ?_⟩; simp (disch := first | omega | assumption | rfl | (simp only [vcS] <;> omega) | fail) only [↓ptV_l, ↓vcA, vcB, ↓vcD, vcE, ↓reduceIte, Nat.reduceEqDiff, Nat.reduceAdd, Nat.reduceMul, Nat.reduceLeDiff, Int.reduceLE, Int.reduceLT, Int.reduceEq, Int.reduceToNat, Int.reduceAdd, Int.reduceSub, Int.reduceMul, Int.reduceNeg, reduceCtorEq, Option.bind_some, Option.map_some, List.length_cons, List.length_nil, vcM, List.getElem?_toArray, List.getElem?_cons_zero, List.getElem?_cons_succ])
  refine callR (num_ok w r B v bs e 8 h hb (by omega)) (Keep.refl _ w) ?_ ?_
  · intro rest φ hok u w1 v1 hk hφ hR
    have hok' := hok
    unfold numR at hok ⊢
    split at hok
    · rename_i hl
      rw [if_pos hl]
      simp only [toOk, Option.some.injEq, Prod.mk.injEq] at hok
      obtain ⟨rfl, rfl⟩ := hok
      subst hφ
      have hv := valF_lt (byt_take hb 8)
      have hlen : (bs.take 8).length = 8 := by rw [List.length_take]; omega
      rw [hlen] at hv
      (refine W_at c43_ok ?_; refine ⟨_, rfl, ?_⟩; simp (disch := first | omega | assumption | rfl | (simp only [vcS] <;> omega) | fail) only [↓ptV_l, ↓vcA, vcB, ↓vcD, vcE, ↓reduceIte, Nat.reduceEqDiff, Nat.reduceAdd, Nat.reduceMul, Nat.reduceLeDiff, Int.reduceLE, Int.reduceLT, Int.reduceEq, Int.reduceToNat, Int.reduceAdd, Int.reduceSub, Int.reduceMul, Int.reduceNeg, reduceCtorEq, Option.bind_some, Option.map_some, List.length_cons, List.length_nil, vcM, List.getElem?_toArray, List.getElem?_cons_zero, List.getElem?_cons_succ])
      exact ⟨hk, _, v1, rfl, rfl, hR⟩
    · cases hok
  · intro hok; exact ⟨by
      unfold numR at hok ⊢
      split at hok
      · cases hok
      · rename_i hl; rw [if_neg hl]; rfl, rfl⟩
theorem ru64_ok (w : World) (r B : Nat) (v : Value) (bs : List Int) (e : Int) (h : RAt w r B v bs e) (hBw : B < w.heap.size) (hb : byt bs) :
    Calls Try.prog 20 #[.pointer (some ⟨r, 0, none⟩)] w (Ret fun u w' => RTo w w' r B v bs e (numR 8 bs) (fun x u _ => u = .int .u64 x) (.int .u64 0) u) := by
  refine calls_of_cfg c20_ok (Nat.le_of_ble_eq_true rfl) ?_
  simp only [argE_nil, argE_cons, Nat.reduceAdd, Nat.zero_add]
  (refine W_at c20_ok ?_; refine ⟨_, rfl, ?_⟩; simp (disch := first | omega | assumption | rfl | (simp only [vcS] <;> omega) | fail) only [↓ptV_l, ↓vcA, vcB, ↓vcD, vcE, ↓reduceIte, Nat.reduceEqDiff, Nat.reduceAdd, Nat.reduceMul, Nat.reduceLeDiff, Int.reduceLE, Int.reduceLT, Int.reduceEq, Int.reduceToNat, Int.reduceAdd, Int.reduceSub, Int.reduceMul, Int.reduceNeg, reduceCtorEq, Option.bind_some, Option.map_some, List.length_cons, List.length_nil, vcM, List.getElem?_toArray, List.getElem?_cons_zero, List.getElem?_cons_succ])
  (refine W_at c20_ok ?_; refine ⟨_, rfl, ?_⟩; simp (disch := first | omega | assumption | rfl | (simp only [vcS] <;> omega) | fail) only [↓ptV_l, ↓vcA, vcB, ↓vcD, vcE, ↓reduceIte, Nat.reduceEqDiff, Nat.reduceAdd, Nat.reduceMul, Nat.reduceLeDiff, Int.reduceLE, Int.reduceLT, Int.reduceEq, Int.reduceToNat, Int.reduceAdd, Int.reduceSub, Int.reduceMul, Int.reduceNeg, reduceCtorEq, Option.bind_some, Option.map_some, List.length_cons, List.length_nil, vcM, List.getElem?_toArray, List.getElem?_cons_zero, List.getElem?_cons_succ])
  refine callV_ret (try_ok (ty := 30) c42_ok c53_ok (by kernel_rfl) rfl (by decide) w 43 #[] (by kernel_rfl) r B v bs e h hBw (numR 8 bs) (fun x u _ => u = .int .u64 x)
    (fun he w1 hE => ?_) (fun a u w' hu => by subst hu; rfl) (fun a u w' w'' p c _ _ _ hu => hu)) ?_
  · subst he
    rw [Array.append_empty]
    exact u641_ok w1 r B v bs 0 (h.ext hE) hb
  · intro u w1 hT
    (refine W_at c20_ok ?_; refine ⟨_, rfl, ?_⟩; simp (disch := first | omega | assumption | rfl | (simp only [vcS] <;> omega) | fail) only [↓ptV_l, ↓vcA, vcB, ↓vcD, vcE, ↓reduceIte, Nat.reduceEqDiff, Nat.reduceAdd, Nat.reduceMul, Nat.reduceLeDiff, Int.reduceLE, Int.reduceLT, Int.reduceEq, Int.reduceToNat, Int.reduceAdd, Int.reduceSub, Int.reduceMul, Int.reduceNeg, reduceCtorEq, Option.bind_some, Option.map_some, List.length_cons, List.length_nil, vcM, List.getElem?_toArray, List.getElem?_cons_zero, List.getElem?_cons_succ, Ret_returned])
    exact hT
end Go.Proofs
