/- A journal on a disk that may die: plain. -/
import Derived.Test.YtfackfekmadjbaaJ1
set_option linter.unusedSimpArgs false
set_option linter.unusedVariables false
set_option linter.constructorNameAsVariable false
namespace Go.Proofs
open Go.Vc
set_option maxRecDepth 10000

theorem Laid.pre {s : Int → Sec} {n : Nat} {h : Int} {a b : List Int} (l : Laid s n h (a ++ b)) : Laid s n h a := fun o ho => by
  rw [l o (by rw [List.length_append]; omega), List.getElem?_append_left ho]
theorem JInv.of {d d' : DS} {J : JS} (h : JInv d J) (ok : d'.Ok) (hn : d'.n = d.n) (h0 : byteD d'.safe 0 0 = some J.head) (hl : Laid d'.safe d.n J.head (layF (allR J) ++ [0])) : JInv d' J :=
  ⟨ok, by rw [hn]; exact h.n, h.head, h.st, h.pos, by rw [hn]; exact h.room, h.bys, h.small, h0, by rw [hn]; exact hl⟩
/-- A crash that tears nothing of this. -/
theorem crash_laid {s : Int → Sec} {Q : List Wr} {n k b : Nat} {h : Int} {l : List Int} (hs : Laid s n h l) (hl : ∀ x ∈ Q, x.2.length = 64) (hb : b ≤ 64)
    (ha : ∀ x ∈ Q, ∀ o, o < l.length → x.1 = ((baseN n h + o / 64 : Nat) : Int) → x.2[o % 64]? = l[o]?) : Laid (crashS s Q k b) n h l := fun o ho => by
  rcases crash_byte s Q k b hl hb (baseN n h + o / 64) (o % 64) with h1 | ⟨x, hx, h1, h2⟩
  · rw [h1]; exact hs o ho
  · rw [h2]; exact ha x hx o ho h1
theorem crash_head {s : Int → Sec} {Q : List Wr} {k b : Nat} (hl : ∀ x ∈ Q, x.2.length = 64) (hb : b ≤ 64) (h0 : ∀ x ∈ Q, x.1 ≠ 0) : byteD (crashS s Q k b) 0 0 = byteD s 0 0 := by
  rcases crash_byte s Q k b hl hb 0 0 with h1 | ⟨x, hx, h1, _⟩
  · exact h1
  · exact absurd h1 (h0 x hx)
theorem torn_b (t : Int) : (modF t 64).toNat ≤ 64 := by
  have := modF_b t (m := 64) (by decide)
  omega
theorem queue_len {d : DS} (h : d.Ok) : ∀ x ∈ d.queue, x.2.length = 64 := fun x hx => (h.queue x hx).1.1
theorem crash_inv {d d' : DS} {J : JS} (h : JInv d J) (ok : d'.Ok) (hn : d'.n = d.n) (hs : d'.safe = d.safe)
    (ha : ∀ x ∈ d'.queue, x.1 ≠ 0 ∧ ∀ o, o < (layF (allR J) ++ [0]).length → x.1 = ((baseN d.n J.head + o / 64 : Nat) : Int) → x.2[o % 64]? = (layF (allR J) ++ [0])[o]?)
    (keep torn : Int) : JInv (crashD d' keep torn) J := by
  refine h.of (crashD_ok ok keep torn) hn ?_ ?_
  · show byteD (crashS d'.safe d'.queue _ _) 0 0 = _
    rw [crash_head (queue_len ok) (torn_b torn) fun x hx => (ha x hx).1, hs]
    exact h.h0
  · show Laid (crashS d'.safe d'.queue _ _) _ _ _
    rw [hs]
    exact crash_laid h.laid (queue_len ok) (torn_b torn) fun x hx => (ha x hx).2
/-! ### A record more -/
def JS.app (J : JS) (b : List Int) : JS := { J with pos := J.pos + 5 + b.length, recs := J.recs ++ [b] }
def appF (b : List Int) : List Int := 0 :: (tail1 b ++ [0])
theorem tail1_len (b : List Int) : (tail1 b).length = 4 + b.length := by simp [tail1, lowF_len]
theorem appF_len (b : List Int) : (appF b).length = 6 + b.length := by simp [appF, tail1_len]; omega
def appI (d : DS) (J : JS) : Nat := baseN d.n J.head + J.pos / 64
def appA (d : DS) (J : JS) (b : List Int) : List Int := (d.safe ((appI d J : Nat) : Int)).take (J.pos % 64) ++ appF b
theorem appA_len {d : DS} {J : JS} (h : JInv d J) (b : List Int) : (appA d J b).length = J.pos % 64 + (6 + b.length) := by
  unfold appA
  rw [List.length_append, List.length_take, (h.ok.safe _).1, appF_len]
  omega
theorem appA_at {d : DS} {J : JS} (h : JInv d J) (b : List Int) {o : Nat} (h1 : 64 * (J.pos / 64) ≤ o) (h2 : o < J.pos + (6 + b.length)) :
    (appA d J b)[o - 64 * (J.pos / 64)]? = (layF (allR J) ++ appF b)[o]? := by
  have hL := h.pos
  have hsl := (h.ok.safe ((appI d J : Nat) : Int)).1
  have htl : ((d.safe ((appI d J : Nat) : Int)).take (J.pos % 64)).length = J.pos % 64 := by rw [List.length_take, hsl]; omega
  unfold appA
  by_cases ho : o < J.pos
  · have hl := h.laid o (by rw [List.length_append]; omega)
    rw [List.getElem?_append_left (by rw [htl]; omega), List.getElem?_append_left (by omega), List.getElem?_take_of_lt (by omega)]
    rw [List.getElem?_append_left (by omega)] at hl
    rw [← hl]
    unfold byteD appI
    have e1 : o / 64 = J.pos / 64 := by omega
    have e2 : o - 64 * (J.pos / 64) = o % 64 := by omega
    rw [e1, e2]
  · rw [List.getElem?_append_right (by rw [htl]; omega), List.getElem?_append_right (by omega), htl, ← hL]
    congr 1
    omega
theorem app_agree {d : DS} {J : JS} (h : JInv d J) (b : List Int) : ∀ x ∈ plan (appI d J) (appA d J b), x.1 ≠ 0 ∧ ∀ o, o < (layF (allR J) ++ [0]).length → x.1 = ((baseN d.n J.head + o / 64 : Nat) : Int) → x.2[o % 64]? = (layF (allR J) ++ [0])[o]? := by
  intro x hx
  obtain ⟨t, h1, h2, h3⟩ := plan_mem _ _ _ _ hx
  have hL := h.pos
  have hlen := appA_len h b
  have hb1 : 1 ≤ baseN d.n J.head := by unfold baseN; omega
  refine ⟨by rw [h1]; unfold appI; omega, fun o ho he => ?_⟩
  rw [List.length_append, List.length_singleton] at ho
  rw [h1] at he
  have he2 : appI d J + t = baseN d.n J.head + o / 64 := by exact_mod_cast he
  unfold appI at he2
  have ht : t = 0 := by omega
  subst ht
  have e1 : o / 64 = J.pos / 64 := by omega
  rw [h3, chunk_byte (by omega) (by rw [hlen]; omega)]
  have e2 : 64 * 0 + o % 64 = o - 64 * (J.pos / 64) := by omega
  rw [e2, appA_at h b (by omega) (by omega)]
  by_cases hop : o < (layF (allR J)).length
  · rw [List.getElem?_append_left hop, List.getElem?_append_left hop]
  · rw [List.getElem?_append_right (by omega), List.getElem?_append_right (by omega)]
    have : o - (layF (allR J)).length = 0 := by omega
    rw [this]; rfl
theorem app_laid {d : DS} {J : JS} (h : JInv d J) (b : List Int) : Laid (settleF d.safe (plan (appI d J) (appA d J b))) d.n J.head (layF (allR J) ++ appF b) := by
  intro o ho
  have hL := h.pos
  have hlen := appA_len h b
  rw [List.length_append, appF_len] at ho
  have e : byteD (settleF d.safe (plan (appI d J) (appA d J b))) (baseN d.n J.head + o / 64) (o % 64) = (settleF d.safe (plan (appI d J) (appA d J b)) ((baseN d.n J.head + o / 64 : Nat) : Int))[o % 64]? := rfl
  have ei : appI d J = baseN d.n J.head + J.pos / 64 := rfl
  rw [e]
  unfold plan
  rw [settle_planF _ _ _ _ _ (Nat.le_refl _)]
  by_cases hp : J.pos / 64 ≤ o / 64
  · have e2 : 64 * (baseN d.n J.head + o / 64 - appI d J) + o % 64 = o - 64 * (J.pos / 64) := by rw [ei]; omega
    rw [if_pos ⟨by rw [ei]; omega, by rw [hlen]; omega⟩, chunk_byte (by omega) (by rw [hlen]; omega), e2, appA_at h b (by omega) (by omega)]
  · rw [if_neg (by rw [ei]; omega)]
    have hl := h.laid o (by rw [List.length_append]; omega)
    rw [List.getElem?_append_left (by omega)] at hl ⊢
    exact hl
theorem settle_head {s : Int → Sec} {Q : List Wr} (h0 : ∀ x ∈ Q, x.1 ≠ 0) : byteD (settleF s Q) 0 0 = byteD s 0 0 := by
  rcases settle_byte Q s 0 0 with h1 | ⟨x, hx, h1, _⟩
  · exact h1
  · exact absurd h1 (h0 x hx)
/-- The mark. -/
def mrkA (s : Int → Sec) (i pos : Nat) : List Int := (s ((i : Nat) : Int)).set (pos % 64) 1
theorem mark_laid {s s' : Int → Sec} {n pos : Nat} {hd : Int} {L T : List Int} (hs : ∀ k, secOK (s k)) (hL : L.length = pos) (h : Laid s n hd (L ++ 0 :: T))
    (hb : ∀ i c, byteD s' i c = byteD s i c ∨ (i = baseN n hd + pos / 64 ∧ byteD s' i c = (mrkA s (baseN n hd + pos / 64) pos)[c]?)) :
    ∃ v, (v = 0 ∨ v = 1) ∧ Laid s' n hd (L ++ v :: T) := by
  have hne : ∀ o, o < (L ++ 0 :: T).length → o ≠ pos → byteD s' (baseN n hd + o / 64) (o % 64) = (L ++ 0 :: T)[o]? := by
    intro o ho hop
    rcases hb (baseN n hd + o / 64) (o % 64) with h1 | ⟨h1, h2⟩
    · rw [h1]; exact h o ho
    · rw [h2]
      unfold mrkA
      rw [List.getElem?_set_ne (by omega)]
      have := h o ho
      unfold byteD at this
      rw [← this, h1]
  have go : ∀ v, byteD s' (baseN n hd + pos / 64) (pos % 64) = some v → Laid s' n hd (L ++ v :: T) := by
    intro v hv o ho
    by_cases hop : o = pos
    · rw [hop, hv, List.getElem?_append_right (by omega), hL, Nat.sub_self]; rfl
    · rw [hne o (by simpa using ho) hop]
      by_cases hlt : o < pos
      · rw [List.getElem?_append_left (by omega), List.getElem?_append_left (by omega)]
      · rw [List.getElem?_append_right (by omega), List.getElem?_append_right (by omega)]
        have : o - L.length = (o - L.length - 1) + 1 := by omega
        rw [this, List.getElem?_cons_succ, List.getElem?_cons_succ]
  rcases hb (baseN n hd + pos / 64) (pos % 64) with h1 | ⟨_, h2⟩
  · refine ⟨0, .inl rfl, go 0 ?_⟩
    rw [h1, h pos (by rw [List.length_append, List.length_cons]; omega), List.getElem?_append_right (by omega), hL, Nat.sub_self]; rfl
  · refine ⟨1, .inr rfl, go 1 ?_⟩
    rw [h2]
    unfold mrkA
    rw [List.getElem?_set_self (by rw [(hs _).1]; omega)]
theorem mark_done {s : Int → Sec} {n pos : Nat} {hd : Int} {L T : List Int} (hs : ∀ k, secOK (s k)) (hL : L.length = pos) (h : Laid s n hd (L ++ 0 :: T)) :
    Laid (settleF s [(((baseN n hd + pos / 64 : Nat) : Int), mrkA s (baseN n hd + pos / 64) pos)]) n hd (L ++ 1 :: T) := by
  obtain ⟨v, hv, hl⟩ := mark_laid (s' := settleF s [(((baseN n hd + pos / 64 : Nat) : Int), mrkA s (baseN n hd + pos / 64) pos)]) hs hL h (by
    intro i c
    by_cases hi : i = baseN n hd + pos / 64
    · refine .inr ⟨hi, ?_⟩
      subst hi
      show (setS s _ _ _)[c]? = _
      unfold setS
      rw [if_pos rfl]
    · refine .inl ?_
      show (setS s _ _ _)[c]? = _
      unfold setS
      rw [if_neg (by omega)]
      rfl)
  have h1 := hl pos (by rw [List.length_append, List.length_cons]; omega)
  have h2 : byteD (settleF s [(((baseN n hd + pos / 64 : Nat) : Int), mrkA s (baseN n hd + pos / 64) pos)]) (baseN n hd + pos / 64) (pos % 64) = some 1 := by
    show (setS s _ _ _)[_]? = _
    unfold setS
    rw [if_pos rfl]
    unfold mrkA
    rw [List.getElem?_set_self (by rw [(hs _).1]; omega)]
  rw [h2, List.getElem?_append_right (by omega), hL, Nat.sub_self] at h1
  obtain rfl : v = 1 := by simpa using h1.symm
  exact hl
theorem allR_app (J : JS) (b : List Int) : allR (J.app b) = allR J ++ [b] := by
  unfold allR JS.app
  simp only
  split <;> simp
theorem layF_app (J : JS) (b : List Int) : layF (allR (J.app b)) ++ [0] = layF (allR J) ++ 1 :: (tail1 b ++ [0]) := by
  rw [allR_app]
  simp [layF, frame1]
theorem JInv.next {d d' : DS} {J : JS} {b : List Int} (h : JInv d J) (hb : byt b) (hsm : b.length < 4294967296) (hroom : J.pos + 6 + b.length ≤ 64 * secs d.n) (ok : d'.Ok) (hn : d'.n = d.n) (h0 : byteD d'.safe 0 0 = some J.head)
    (hl : Laid d'.safe d.n J.head (layF (allR J) ++ 1 :: (tail1 b ++ [0]))) : JInv d' (J.app b) where
  ok := ok
  n := by rw [hn]; exact h.n
  head := h.head
  st := h.st
  pos := by
    rw [allR_app]
    have : layF (allR J ++ [b]) = layF (allR J) ++ frame1 b := by simp [layF]
    rw [this, List.length_append, ← h.pos, frame1_len]
    show J.pos + 5 + b.length = _
    omega
  room := by rw [hn]; show J.pos + 5 + b.length + 1 ≤ _; omega
  bys := by
    rw [allR_app]
    intro x hx
    rcases List.mem_append.1 hx with hx | hx
    · exact h.bys x hx
    · rw [List.mem_singleton.1 hx]; exact hb
  small := by
    rw [allR_app]
    intro x hx
    rcases List.mem_append.1 hx with hx | hx
    · exact h.small x hx
    · rw [List.mem_singleton.1 hx]; exact hsm
  h0 := h0
  laid := by rw [hn, layF_app]; exact hl
/-! ### Another state -/
def JS.cmp (J : JS) (b : List Int) : JS := ⟨1 + J.head % 2, 5 + b.length, b, []⟩
def cmpF (b : List Int) : List Int := frame1 b ++ [0]
theorem cmpF_len (b : List Int) : (cmpF b).length = 6 + b.length := by simp [cmpF, frame1_len]; omega
theorem base_ne {n : Nat} {h o t : Nat} {hd : Int} (hh : 0 ≤ hd) (h1 : o < secs n) (h2 : t < secs n) : baseN n (1 + hd % 2) + t ≠ baseN n hd + o := by
  unfold baseN
  have : hd % 2 = 0 ∨ hd % 2 = 1 := by omega
  rcases this with e | e
  · have e2 : (1 + hd % 2) % 2 = 1 := by omega
    rw [e2, e]
    show 1 + 1 * secs n + t ≠ 1 + 0 * secs n + o
    omega
  · have e2 : (1 + hd % 2) % 2 = 0 := by omega
    rw [e2, e]
    show 1 + 0 * secs n + t ≠ 1 + 1 * secs n + o
    omega
theorem cmp_agree {d : DS} {J : JS} (h : JInv d J) (b : List Int) (hroom : b.length + 6 ≤ 64 * secs d.n) : ∀ x ∈ plan (baseN d.n (1 + J.head % 2)) (cmpF b), x.1 ≠ 0 ∧ ∀ o, o < (layF (allR J) ++ [0]).length → x.1 = ((baseN d.n J.head + o / 64 : Nat) : Int) → x.2[o % 64]? = (layF (allR J) ++ [0])[o]? := by
  intro x hx
  obtain ⟨t, h1, h2, h3⟩ := plan_mem _ _ _ _ hx
  rw [cmpF_len] at h2
  have hL := h.pos
  have hr := h.room
  have hb1 : 1 ≤ baseN d.n (1 + J.head % 2) := by unfold baseN; omega
  refine ⟨by rw [h1]; omega, fun o ho he => ?_⟩
  rw [List.length_append, List.length_singleton] at ho
  rw [h1] at he
  have he2 : baseN d.n (1 + J.head % 2) + t = baseN d.n J.head + o / 64 := by exact_mod_cast he
  exact absurd he2 (base_ne (h := 0) h.head.1 (by omega) (by omega))
theorem cmp_laid (d : DS) (hd : Int) (b : List Int) : Laid (settleF d.safe (plan (baseN d.n hd) (cmpF b))) d.n hd (cmpF b) := by
  intro o ho
  have e : byteD (settleF d.safe (plan (baseN d.n hd) (cmpF b))) (baseN d.n hd + o / 64) (o % 64) = (settleF d.safe (plan (baseN d.n hd) (cmpF b)) ((baseN d.n hd + o / 64 : Nat) : Int))[o % 64]? := rfl
  rw [e]
  unfold plan
  have e2 : baseN d.n hd + o / 64 - baseN d.n hd = o / 64 := by omega
  rw [settle_planF _ _ _ _ _ (Nat.le_refl _), e2, if_pos ⟨by omega, by omega⟩, chunk_byte (by omega) (by omega)]
  congr 1
  omega
theorem JInv.cmp {d d' : DS} {J : JS} {b : List Int} (h : JInv d J) (hb : byt b) (hsm : b.length < 4294967296) (hroom : b.length + 6 ≤ 64 * secs d.n) (ok : d'.Ok) (hn : d'.n = d.n) (h0 : byteD d'.safe 0 0 = some (1 + J.head % 2))
    (hl : Laid d'.safe d.n (1 + J.head % 2) (cmpF b)) : JInv d' (J.cmp b) := by
  have hA : allR (J.cmp b) = [b] := by
    unfold allR JS.cmp
    simp only
    rw [if_neg (by omega)]
  have hF : layF (allR (J.cmp b)) = frame1 b := by rw [hA]; simp [layF]
  exact {
    ok := ok
    n := by rw [hn]; exact h.n
    head := by show 0 ≤ 1 + J.head % 2 ∧ 1 + J.head % 2 ≤ 2; omega
    st := fun e => by
      have e2 : 1 + J.head % 2 = 0 := e
      omega
    pos := by rw [hF, frame1_len]; rfl
    room := by rw [hn]; show 5 + b.length + 1 ≤ _; omega
    bys := by rw [hA]; intro x hx; rw [List.mem_singleton.1 hx]; exact hb
    small := by rw [hA]; intro x hx; rw [List.mem_singleton.1 hx]; exact hsm
    h0 := h0
    laid := by rw [hn, hF]; exact hl }
/-- The head's sector. -/
theorem head_byte {s : Int → Sec} {Q : List Wr} {k b : Nat} {hd : Int} (hQ : ∀ x ∈ Q, x = (0, padS [hd])) (hb : b ≤ 64) :
    (byteD (crashS s Q k b) 0 0 = byteD s 0 0 ∨ byteD (crashS s Q k b) 0 0 = some hd) ∧ ∀ i c, i ≠ 0 → byteD (crashS s Q k b) i c = byteD s i c := by
  have hl : ∀ x ∈ Q, x.2.length = 64 := fun x hx => by rw [hQ x hx]; simp [padS]
  constructor
  · rcases crash_byte s Q k b hl hb 0 0 with h | ⟨x, hx, _, h⟩
    · exact .inl h
    · rw [hQ x hx] at h
      exact .inr (h.trans rfl)
  · intro i c hi
    rcases crash_byte s Q k b hl hb i c with h | ⟨x, hx, h, _⟩
    · exact h
    · rw [hQ x hx] at h
      exact absurd h (by simp; omega)
end Go.Proofs
