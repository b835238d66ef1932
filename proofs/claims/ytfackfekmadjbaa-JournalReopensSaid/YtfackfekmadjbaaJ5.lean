/- Calls to a disk that may die, and what a crash leaves of them: plain. -/
import Derived.Test.YtfackfekmadjbaaJ2
set_option linter.unusedSimpArgs false
set_option linter.unusedVariables false
set_option linter.constructorNameAsVariable false
namespace Go.Proofs
open Go.Vc
set_option maxRecDepth 10000

structure Runs (d d' : DS) (Q : List Wr) (e : Int) : Prop where
  n : d'.n = d.n
  same : d'.safe = d.safe
  ok : d'.Ok
  res : (e = 0 ∧ d'.dead = false ∧ d'.queue = d.queue ++ Q) ∨ (e = 10 ∧ d'.dead = true ∧ ∃ m, d'.queue = d.queue ++ Q.take m)
  quiet : d.left = -1 → e = 0 ∧ d'.left = -1
theorem Runs.nil {d : DS} (h : d.Ok) (hd : d.dead = false) : Runs d d [] 0 := ⟨rfl, rfl, h, .inl ⟨rfl, hd, by simp⟩, fun h => ⟨rfl, h⟩⟩
theorem Runs.then {d d1 d' : DS} {x : Wr} {Q : List Wr} {e : Int} (h : Runs d d1 [x] 0) (k : Runs d1 d' Q e) : Runs d d' (x :: Q) e := by
  have hq : d1.queue = d.queue ++ [x] := by
    rcases h.res with ⟨_, _, q⟩ | ⟨h0, _⟩
    · exact q
    · exact absurd h0 (by decide)
  refine ⟨k.n.trans h.n, k.same.trans h.same, k.ok, ?_, fun hl => k.quiet (h.quiet hl).2⟩
  rcases k.res with ⟨h1, h2, h3⟩ | ⟨h1, h2, m, h3⟩
  · exact .inl ⟨h1, h2, by rw [h3, hq]; simp⟩
  · exact .inr ⟨h1, h2, m + 1, by rw [h3, hq]; simp⟩
theorem Runs.die {d d1 : DS} {x : Wr} {Q : List Wr} {e : Int} (h : Runs d d1 [x] e) (he : e ≠ 0) : Runs d d1 (x :: Q) e := by
  refine ⟨h.n, h.same, h.ok, ?_, h.quiet⟩
  rcases h.res with ⟨h1, _⟩ | ⟨h1, h2, m, h3⟩
  · exact absurd h1 he
  · refine .inr ⟨h1, h2, ?_⟩
    cases m with
    | zero => exact ⟨0, by rw [h3]; simp⟩
    | succ m => exact ⟨1, by rw [h3]; simp⟩
theorem callD_cases {d : DS} (hd : d.dead = false) : ((callD d).2 = true ∧ (callD d).1.dead = false ∧ (d.left = -1 → (callD d).1.left = -1)) ∨ ((callD d).2 = false ∧ (callD d).1.dead = true ∧ d.left ≠ -1) := by
  unfold callD
  rw [hd]
  simp only [Bool.false_eq_true, if_false]
  by_cases h0 : d.left = 0
  · rw [if_pos h0]; exact .inr ⟨rfl, rfl, by omega⟩
  · rw [if_neg h0]
    by_cases h1 : d.left > 0
    · rw [if_pos h1]; exact .inl ⟨rfl, rfl, fun h => by omega⟩
    · rw [if_neg h1]; exact .inl ⟨rfl, hd, fun h => h⟩
theorem runs_write {d : DS} (h : d.Ok) (hd : d.dead = false) (hq : d.queue.length < 1000000) {i : Int} {bs : List Int} (ht : thereB d.n i = true) (hl : bs.length ≤ 64) (hb : byt bs) : Runs d (writeD d i bs).1 [(i, padS bs)] (writeD d i bs).2 := by
  have hok := writeD_ok h hq (i := i) hb
  have hc := callD_q d
  have e : writeD d i bs = if (callD d).2 then ({ (callD d).1 with queue := d.queue ++ [(i, padS bs)] }, 0) else ((callD d).1, 10) := by
    unfold writeD
    rw [if_pos ht, if_neg (by omega)]
  rw [e] at hok ⊢
  rcases callD_cases hd with ⟨h1, h2, h3⟩ | ⟨h1, h2, h3⟩
  · rw [h1] at hok ⊢
    simp only [if_true] at hok ⊢
    exact ⟨hc.2.1, hc.2.2, hok, .inl ⟨rfl, h2, rfl⟩, fun hl => ⟨rfl, h3 hl⟩⟩
  · rw [h1] at hok ⊢
    simp only [Bool.false_eq_true, if_false] at hok ⊢
    exact ⟨hc.2.1, hc.2.2, hok, .inr ⟨rfl, h2, 0, by rw [hc.1]; simp⟩, fun hl => absurd hl h3⟩

structure Safed (d d' : DS) (Q : List Wr) (e : Int) : Prop where
  n : d'.n = d.n
  ok : d'.Ok
  res : (e = 0 ∧ d'.dead = false ∧ d'.queue = [] ∧ d'.safe = settleF d.safe (d.queue ++ Q)) ∨ (e = 10 ∧ d'.dead = true ∧ d'.safe = d.safe ∧ ∃ m, d'.queue = d.queue ++ Q.take m)
  quiet : d.left = -1 → e = 0 ∧ d'.left = -1
theorem Runs.safed {d d' : DS} {Q : List Wr} {e : Int} (h : Runs d d' Q e) (he : e ≠ 0) : Safed d d' Q e := by
  refine ⟨h.n, h.ok, ?_, h.quiet⟩
  rcases h.res with ⟨h1, _⟩ | ⟨h1, h2, h3⟩
  · exact absurd h1 he
  · exact .inr ⟨h1, h2, h.same, h3⟩
theorem syncD_ok {d : DS} (h : d.Ok) : (syncD d).1.Ok := by
  unfold syncD
  split
  · exact settleD_ok (callD_ok h) _
  · exact callD_ok h
theorem runs_sync {d d1 : DS} {Q : List Wr} (h : Runs d d1 Q 0) : Safed d (syncD d1).1 Q (syncD d1).2 := by
  obtain ⟨hd, hq⟩ : d1.dead = false ∧ d1.queue = d.queue ++ Q := by
    rcases h.res with ⟨_, h1, q⟩ | ⟨h0, _⟩
    · exact ⟨h1, q⟩
    · exact absurd h0 (by decide)
  have hok := syncD_ok h.ok
  have hc := callD_q d1
  unfold syncD at hok ⊢
  rcases callD_cases hd with ⟨h1, h2, h3⟩ | ⟨h1, h2, h3⟩
  · rw [h1] at hok ⊢
    simp only [if_true] at hok ⊢
    refine ⟨hc.2.1.trans h.n, hok, .inl ⟨rfl, h2, ?_, ?_⟩, fun hl => ⟨rfl, h3 (h.quiet hl).2⟩⟩
    · show (callD d1).1.queue.drop _ = []
      rw [hc.1, List.drop_length]
    · show settleF (callD d1).1.safe ((callD d1).1.queue.take _) = _
      rw [hc.1, hc.2.2, List.take_length, h.same, hq]
  · rw [h1] at hok ⊢
    simp only [Bool.false_eq_true, if_false] at hok ⊢
    exact ⟨hc.2.1.trans h.n, hok, .inr ⟨rfl, h2, hc.2.2.trans h.same, Q.length, by rw [hc.1, hq, List.take_length]⟩, fun hl => absurd (h.quiet hl).2 h3⟩

/-- A journal on a disk that nothing waits for. -/
structure Good (d : DS) (J : JS) : Prop where
  inv : JInv d J
  queue : d.queue = []
  alive : d.dead = false
structure AppTo (d d' : DS) (J J' : JS) (e : Int) : Prop where
  n : d'.n = d.n
  ok : d'.Ok
  res : (e = 0 ∧ Good d' J') ∨ (e = 10 ∧ d'.dead = true ∧ ∀ keep torn, JInv (crashD d' keep torn) J ∨ JInv (crashD d' keep torn) J')
  quiet : d.left = -1 → e = 0 ∧ d'.left = -1
theorem app_die {d d1 : DS} {J J' : JS} {b : List Int} {e : Int} (h : Good d J) (h1 : Safed d d1 (plan (appI d J) (appA d J b)) e) (he : e ≠ 0) : AppTo d d1 J J' e := by
  refine ⟨h1.n, h1.ok, ?_, h1.quiet⟩
  rcases h1.res with ⟨h0, _⟩ | ⟨h0, h2, h3, m, h4⟩
  · exact absurd h0 he
  · refine .inr ⟨h0, h2, fun keep torn => .inl (crash_inv h.inv h1.ok h1.n h3 (fun x hx => ?_) keep torn)⟩
    rw [h4, h.queue, List.nil_append] at hx
    exact app_agree h.inv b x (List.mem_of_mem_take hx)
theorem cmp_die {d d1 : DS} {J J' : JS} {b : List Int} {e : Int} (h : Good d J) (hroom : b.length + 6 ≤ 64 * secs d.n) (h1 : Safed d d1 (plan (baseN d.n (1 + J.head % 2)) (cmpF b)) e) (he : e ≠ 0) : AppTo d d1 J J' e := by
  refine ⟨h1.n, h1.ok, ?_, h1.quiet⟩
  rcases h1.res with ⟨h0, _⟩ | ⟨h0, h2, h3, m, h4⟩
  · exact absurd h0 he
  · refine .inr ⟨h0, h2, fun keep torn => .inl (crash_inv h.inv h1.ok h1.n h3 (fun x hx => ?_) keep torn)⟩
    rw [h4, h.queue, List.nil_append] at hx
    exact cmp_agree h.inv b hroom x (List.mem_of_mem_take hx)
theorem app_to {d d1 d2 : DS} {J : JS} {b : List Int} {e : Int} (h : Good d J) (hb : byt b) (hsm : b.length < 4294967296) (hroom : J.pos + 6 + b.length ≤ 64 * secs d.n) (h1 : Safed d d1 (plan (appI d J) (appA d J b)) 0)
    (h2 : Safed d1 d2 [(((appI d J : Nat) : Int), mrkA d1.safe (appI d J) J.pos)] e) : AppTo d d2 J (J.app b) e := by
  obtain ⟨ha1, hq1, hs1⟩ : d1.dead = false ∧ d1.queue = [] ∧ d1.safe = settleF d.safe (plan (appI d J) (appA d J b)) := by
    rcases h1.res with ⟨_, h1, q, s⟩ | ⟨h0, _⟩
    · exact ⟨h1, q, by rw [s, h.queue]; rfl⟩
    · exact absurd h0 (by decide)
  have hag := app_agree h.inv b
  have hlaid : Laid d1.safe d.n J.head (layF (allR J) ++ 0 :: (tail1 b ++ [0])) := by
    rw [hs1]; exact app_laid h.inv b
  have hh0 : byteD d1.safe 0 0 = some J.head := by rw [hs1, settle_head fun x hx => (hag x hx).1]; exact h.inv.h0
  have hx0 : ((appI d J : Nat) : Int) ≠ 0 := by unfold appI baseN; omega
  have hL : (layF (allR J)).length = J.pos := h.inv.pos.symm
  refine ⟨h2.n.trans h1.n, h2.ok, ?_, fun hl => h2.quiet (h1.quiet hl).2⟩
  rcases h2.res with ⟨he, hd2, hq2, hs2⟩ | ⟨he, hd2, hs2, m, hq2⟩
  · refine .inl ⟨he, ?_, hq2, hd2⟩
    rw [hq1, List.nil_append] at hs2
    refine h.inv.next hb hsm hroom h2.ok (h2.n.trans h1.n) ?_ ?_
    · rw [hs2, settle_head fun x hx => by rw [List.mem_singleton.1 hx]; exact hx0]
      exact hh0
    · rw [hs2]
      exact mark_done h1.ok.safe hL hlaid
  · refine .inr ⟨he, hd2, fun keep torn => ?_⟩
    rw [hq1, List.nil_append] at hq2
    have hmem : ∀ x ∈ d2.queue, x = (((appI d J : Nat) : Int), mrkA d1.safe (appI d J) J.pos) := fun x hx => by
      rw [hq2] at hx
      exact List.mem_singleton.1 (List.mem_of_mem_take hx)
    have hk := crashD_ok h2.ok keep torn
    have hh : byteD (crashD d2 keep torn).safe 0 0 = some J.head := by
      show byteD (crashS d2.safe d2.queue _ _) 0 0 = _
      rw [crash_head (queue_len h2.ok) (torn_b torn) fun x hx => by rw [hmem x hx]; exact hx0, hs2]
      exact hh0
    obtain ⟨v, hv, hl⟩ := mark_laid (s' := (crashD d2 keep torn).safe) h1.ok.safe hL hlaid fun i c => by
      rcases crash_byte d2.safe d2.queue (modF keep (d2.queue.length + 1)).toNat (modF torn 64).toNat (queue_len h2.ok) (torn_b torn) i c with h | ⟨x, hx, hxi, h⟩
      · exact .inl (h.trans (by rw [hs2]))
      · rw [hmem x hx] at hxi h
        exact .inr ⟨by have : (appI d J : Int) = (i : Int) := hxi
                       have e : appI d J = i := by exact_mod_cast this
                       rw [← e]; rfl, h⟩
    rcases hv with rfl | rfl
    · refine .inl (h.inv.of hk (h2.n.trans h1.n) hh (Laid.pre (b := tail1 b ++ [0]) ?_))
      rw [List.append_assoc]
      exact hl
    · exact .inr (h.inv.next hb hsm hroom hk (h2.n.trans h1.n) hh hl)
theorem settle_crash (s : Int → Sec) (Q : List Wr) : settleF s Q = crashS s Q Q.length 0 := by
  unfold crashS
  rw [List.drop_length, List.take_length]
theorem cmp_to {d d1 d2 : DS} {J : JS} {b : List Int} {e : Int} (h : Good d J) (hb : byt b) (hsm : b.length < 4294967296) (hroom : b.length + 6 ≤ 64 * secs d.n) (h1 : Safed d d1 (plan (baseN d.n (1 + J.head % 2)) (cmpF b)) 0)
    (h2 : Safed d1 d2 [(0, padS [1 + J.head % 2])] e) : AppTo d d2 J (J.cmp b) e := by
  obtain ⟨ha1, hq1, hs1⟩ : d1.dead = false ∧ d1.queue = [] ∧ d1.safe = settleF d.safe (plan (baseN d.n (1 + J.head % 2)) (cmpF b)) := by
    rcases h1.res with ⟨_, h1, q, s⟩ | ⟨h0, _⟩
    · exact ⟨h1, q, by rw [s, h.queue]; rfl⟩
    · exact absurd h0 (by decide)
  have hag := cmp_agree h.inv b hroom
  have hlen : ∀ x ∈ plan (baseN d.n (1 + J.head % 2)) (cmpF b), x.2.length = 64 := plan_len
  have hn2 : d2.n = d.n := h2.n.trans h1.n
  have hh0 : byteD d1.safe 0 0 = some J.head := by rw [hs1, settle_head fun x hx => (hag x hx).1]; exact h.inv.h0
  have hold : Laid d1.safe d.n J.head (layF (allR J) ++ [0]) := by
    rw [hs1, settle_crash]
    exact crash_laid h.inv.laid hlen (by decide) fun x hx => (hag x hx).2
  have hnew : Laid d1.safe d.n (1 + J.head % 2) (cmpF b) := by rw [hs1]; exact cmp_laid d _ b
  have key : ∀ d3 : DS, d3.Ok → d3.n = d.n → (byteD d3.safe 0 0 = some J.head ∨ byteD d3.safe 0 0 = some (1 + J.head % 2)) → (∀ i c, i ≠ 0 → byteD d3.safe i c = byteD d1.safe i c) →
      (byteD d3.safe 0 0 = some J.head → JInv d3 J) ∧ (byteD d3.safe 0 0 = some (1 + J.head % 2) → JInv d3 (J.cmp b)) := by
    intro d3 hk hn3 _ hby
    have mv : ∀ {hd : Int} {l : List Int}, Laid d1.safe d.n hd l → Laid d3.safe d.n hd l := fun {hd l} hl o ho => by
      rw [hby _ _ (by unfold baseN; omega)]
      exact hl o ho
    exact ⟨fun hb0 => h.inv.of hk hn3 hb0 (mv hold), fun hb0 => h.inv.cmp hb hsm hroom hk hn3 hb0 (mv hnew)⟩
  refine ⟨hn2, h2.ok, ?_, fun hl => h2.quiet (h1.quiet hl).2⟩
  rcases h2.res with ⟨he, hd2, hq2, hs2⟩ | ⟨he, hd2, hs2, m, hq2⟩
  · refine .inl ⟨he, ?_, hq2, hd2⟩
    rw [hq1, List.nil_append] at hs2
    have hb0 : byteD d2.safe 0 0 = some (1 + J.head % 2) := by
      rw [hs2]
      show (setS d1.safe 0 (padS [1 + J.head % 2]) 0)[0]? = _
      unfold setS
      rw [if_pos rfl]; rfl
    refine (key d2 h2.ok hn2 (.inr hb0) fun i c hi => ?_).2 hb0
    rw [hs2]
    show (setS d1.safe 0 (padS [1 + J.head % 2]) ((i : Nat) : Int))[c]? = _
    unfold setS
    rw [if_neg (by omega)]; rfl
  · refine .inr ⟨he, hd2, fun keep torn => ?_⟩
    rw [hq1, List.nil_append] at hq2
    have hmem : ∀ x ∈ d2.queue, x = (0, padS [1 + J.head % 2]) := fun x hx => by
      rw [hq2] at hx
      exact List.mem_singleton.1 (List.mem_of_mem_take hx)
    have hk := crashD_ok h2.ok keep torn
    obtain ⟨hb0, hby⟩ := head_byte (s := d2.safe) (Q := d2.queue) (k := (modF keep (d2.queue.length + 1)).toNat) (b := (modF torn 64).toNat) hmem (torn_b torn)
    rw [hs2] at hb0 hby
    have hb1 : byteD (crashD d2 keep torn).safe 0 0 = some J.head ∨ byteD (crashD d2 keep torn).safe 0 0 = some (1 + J.head % 2) := by
      show byteD (crashS d2.safe d2.queue _ _) 0 0 = _ ∨ byteD (crashS d2.safe d2.queue _ _) 0 0 = _
      rw [hs2]
      rcases hb0 with h | h
      · exact .inl (h.trans hh0)
      · exact .inr h
    have kk := key (crashD d2 keep torn) hk hn2 hb1 fun i c hi => by
      show byteD (crashS d2.safe d2.queue _ _) i c = _
      rw [hs2]; exact hby i c hi
    exact hb1.elim (fun h => .inl (kk.1 h)) fun h => .inr (kk.2 h)
end Go.Proofs
