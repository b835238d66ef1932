/- The program's 'Parse'. -/
import Derived.Test.YthjijgmhicplaaaS1
set_option linter.unusedSimpArgs false
set_option linter.unusedVariables false
set_option linter.constructorNameAsVariable false
namespace Go.Proofs
open Go.Vc
set_option maxRecDepth 10000

theorem opR_drop {l : List Int} {o : OE} {rest : List Int} (hb : byt l) (h : opR l = .ok (o, rest)) : ∃ j, 1 ≤ j ∧ rest = l.drop j ∧ rest.length < l.length ∧ o.2.length ≤ l.length ∧ byt o.2 ∧ l.head? = some o.1 := by
  cases l with
  | nil => cases h
  | cons c t =>
    have hbt : byt t := fun z hz => hb z (by simp [hz])
    rw [opR] at h
    cases hs : sizeN c t with
    | error k => rw [hs] at h; cases h
    | ok p =>
      obtain ⟨n, t'⟩ := p
      rw [hs] at h
      simp only at h
      have ht' : ∃ j, t' = t.drop j := by
        unfold sizeN at hs
        split at hs
        · cases hs; exact ⟨0, rfl⟩
        · split at hs
          · exact (num_byt hbt (by omega) hs).2.2
          · split at hs
            · exact (num_byt hbt (by omega) hs).2.2
            · split at hs
              · exact (num_byt hbt (by omega) hs).2.2
              · cases hs; exact ⟨0, rfl⟩
      obtain ⟨j, rfl⟩ := ht'
      cases hr : rawR n (t.drop j) with
      | error k => rw [hr] at h; cases h
      | ok p =>
        obtain ⟨d, rest'⟩ := p
        rw [hr] at h
        cases h
        unfold rawR at hr
        split at hr
        · cases hr
          refine ⟨j + n.toNat + 1, by omega, ?_, ?_, ?_, byt_take (byt_drop hbt j) _, rfl⟩
          · rw [List.drop_drop, List.drop_succ_cons]
          · rw [List.length_drop, List.length_drop, List.length_cons]; omega
          · rw [List.length_take, List.length_drop, List.length_cons]; omega
        · cases hr
/-- All operations of a script. -/
def parseK : Nat → List Int → Option (List OE)
  | 0, _ => some []
  | _ + 1, [] => some []
  | k + 1, c :: t => match opR (c :: t) with
    | .error _ => none
    | .ok (o, rest) => (parseK k rest).map (o :: ·)
def parse (l : List Int) : Option (List OE) := parseK l.length l
theorem parseK_fuel : ∀ (k : Nat) (l : List Int), byt l → l.length ≤ k → parseK k l = parse l := by
  intro k
  induction k using Nat.strongRecOn with
  | ind k ih =>
    intro l hb hl
    cases k with
    | zero =>
      obtain rfl : l = [] := List.eq_nil_of_length_eq_zero (by omega)
      rfl
    | succ k =>
      cases l with
      | nil => rfl
      | cons c t =>
        rw [parse, List.length_cons, parseK, parseK]
        cases h : opR (c :: t) with
        | error e => rfl
        | ok p =>
          obtain ⟨o, rest⟩ := p
          obtain ⟨j, hj, hr, hlt, _⟩ := opR_drop hb h
          have hbr : byt rest := by rw [hr]; exact byt_drop hb j
          rw [List.length_cons] at hl hlt
          simp only
          rw [ih k (by omega) rest hbr (by omega), ih t.length (by omega) rest hbr (by omega)]
theorem parse_nil : parse [] = some [] := rfl
theorem parse_ok {l : List Int} {o : OE} {rest : List Int} (hb : byt l) (h : opR l = .ok (o, rest)) : parse l = (parse rest).map (o :: ·) := by
  obtain ⟨j, hj, hr, hlt, _⟩ := opR_drop hb h
  have hbr : byt rest := by rw [hr]; exact byt_drop hb j
  cases l with
  | nil => cases h
  | cons c t =>
    rw [parse, List.length_cons, parseK, h]
    simp only
    rw [List.length_cons] at hlt
    rw [parseK_fuel _ rest hbr (by omega)]
theorem parse_err {l : List Int} {k : Int} (hl : l ≠ []) (h : opR l = .error k) : parse l = none := by
  cases l with
  | nil => exact absurd rfl hl
  | cons c t => rw [parse, List.length_cons, parseK, h]

abbrev TE := Int × List Int × Value
def opCells (ts : List TE) : List Value := ts.flatMap fun t => [.int .u8 t.1, t.2.2]
def opsOf (ts : List TE) : List OE := ts.map fun t => (t.1, t.2.1)
/-- Operations, with their bytes, above m. -/
structure OpsAt (m el : Nat) (w : World) (v : Value) (ts : List TE) : Prop where
  row : w.ownsRow m el 2 v ts.length (opCells ts)
  own : ∀ t ∈ ts, Own1 w t.2.2 t.2.1 ∧ ∀ g, blk t.2.2 g → m ≤ g
  dist : Dist (ts.map (·.2.2))
theorem OpsAt.nil (m el : Nat) (w : World) : OpsAt m el w (.slice none 0 0) [] := ⟨World.ownsRow_nil w m el 2, fun _ h => (by cases h), fun i _ hi => absurd hi (Nat.not_lt_zero i)⟩
theorem OpsAt.keep {S : Nat → Prop} {m el : Nat} {w w' : World} {v : Value} {ts : List TE} (h : OpsAt m el w v ts) (k : Keep S w w') (hS : ∀ g, m ≤ g → ¬ S g) : OpsAt m el w' v ts :=
  ⟨ownsRow_keep h.row k fun g hg => hS g (own_block h.row hg), fun t ht => ⟨(h.own t ht).1.keep k fun g hg => hS g ((h.own t ht).2 g hg), (h.own t ht).2⟩, h.dist⟩
theorem Dist.snoc {vs : List Value} {v : Value} (h : Dist vs) (hv : ∀ (j : Nat) (hj : j < vs.length) g, blk vs[j] g → ¬ blk v g) : Dist (vs ++ [v]) := by
  intro i j hi hj g h1 h2
  simp only [List.length_append, List.length_cons, List.length_nil] at hi hj
  rw [List.getElem_append] at h1 h2
  by_cases a : i < vs.length
  · by_cases b : j < vs.length
    · rw [dif_pos a] at h1; rw [dif_pos b] at h2; exact h i j a b g h1 h2
    · rw [dif_pos a] at h1; rw [dif_neg b] at h2
      have e : j - vs.length = 0 := by omega
      simp only [e, List.getElem_cons_zero] at h2
      exact absurd h2 (hv i a g h1)
  · by_cases b : j < vs.length
    · rw [dif_neg a] at h1; rw [dif_pos b] at h2
      have e : i - vs.length = 0 := by omega
      simp only [e, List.getElem_cons_zero] at h1
      exact absurd h1 (hv j b g h2)
    · omega
/-- One more. -/
theorem OpsAt.push {m el : Nat} {w : World} {v data : Value} {ts : List TE} {c : Int} {d : List Int} {K : Value → World → Prop} (h : OpsAt m el w v ts) (hel : el ≠ 5) (hm : m ≤ w.heap.size) (hlen : ts.length ≤ 1000000) (ho : Own1 w data d) (hd : ∀ g, blk data g → m ≤ g)
    (hn : ∀ t ∈ ts, ∀ g, blk t.2.2 g → ¬ blk data g)
    (hk : ∀ v' w', OpsAt m el w' v' (ts ++ [(c, d, data)]) → Keep (blk v) w w' → K v' w') :
    appV el 2 32 [.int .u8 0, .slice none 0 0] v (.slice (some ⟨w.heap.size, 0, none⟩) 1 1) (w.alloc (.cells [.int .u8 c, data].toArray el)) K := by
  have hml : maxLen = 9223372036854775807 := rfl
  refine appV_one h.row rfl (by intro z hz; simp at hz; rcases hz with rfl | rfl; rfl; exact ho.rd.one) (by omega) (by omega) rfl hm (by omega) fun v' w' h1 h2 => hk v' w' ⟨?_, fun t ht => ?_, ?_⟩ h2
  · rw [List.length_append, List.length_cons, List.length_nil, opCells, List.flatMap_append]; exact h1
  · have hne : ∀ g, ∀ u b, Own1 w u b → blk u g → ¬ v.ownBlock = some g := fun g u b hu hg hv => by
      obtain ⟨c1, e1⟩ := row_type hu hg
      obtain ⟨c2, e2⟩ := row_type h.row hv
      rw [e1] at e2; cases e2; exact hel rfl
    rw [List.mem_append] at ht
    rcases ht with ht | ht
    · exact ⟨(h.own t ht).1.keep h2 fun g hg => hne g _ _ (h.own t ht).1 hg, (h.own t ht).2⟩
    · simp only [List.mem_singleton] at ht
      subst ht
      exact ⟨ho.keep h2 fun g hg => hne g _ _ ho hg, hd⟩
  · rw [List.map_append]
    refine h.dist.snoc fun j hj g hg => ?_
    have hj' : j < ts.length := by simpa using hj
    rw [List.getElem_map] at hg
    exact hn _ (List.getElem_mem hj') g hg
theorem opsOf_len (ts : List TE) : (opsOf ts).length = ts.length := by simp [opsOf]
end Go.Proofs
