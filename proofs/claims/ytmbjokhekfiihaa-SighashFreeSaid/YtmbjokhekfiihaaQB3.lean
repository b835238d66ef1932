/- Laws that the last text of this claim uses, part 3: written for it, merged by program. -/
import Derived.Test.YtmbjokhekfiihaaQB2
set_option linter.unusedSimpArgs false
set_option linter.unusedVariables false
set_option linter.constructorNameAsVariable false
namespace Go.Proofs
open Go.Vc
set_option maxRecDepth 10000

structure TxI.Sz (x : TxI) : Prop where
  script : x.script.length ≤ 140737488355328
  wit : x.wit.length * 24 ≤ 140737488355328
  item : ∀ p ∈ x.wit, p.length ≤ 140737488355328
structure TxV.Sz (t : TxV) : Prop where
  ins : t.ins.length * 96 ≤ 140737488355328
  outs : t.outs.length * 32 ≤ 140737488355328
  inp : ∀ x ∈ t.ins, x.Sz
  out : ∀ y ∈ t.outs, y.script.length ≤ 140737488355328
def InN (m : Nat) (w : World) (c : Array Value) (x : TxI) : Prop := ∃ sv wv, c = iC x sv wv ∧ N1 m w sv x.script ∧ RowN m w wv x.wit
def OuN (m : Nat) (w : World) (c : Array Value) (y : TxO) : Prop := ∃ sv, c = oC y sv ∧ N1 m w sv y.script
def ListN {α : Type} (R : Nat → World → Array Value → α → Prop) (T size : Nat) (m : Nat) (w : World) (v : Value) (l : List α) : Prop :=
  ∃ cs : List (Array Value), cs.length = l.length ∧ OwnO w m T size v cs ∧ ∀ i (h : i < cs.length) (h' : i < l.length), R m w cs[i] l[i]
abbrev InsN (m : Nat) (w : World) (v : Value) (l : List TxI) : Prop := ListN InN 50 36 m w v l
abbrev OusN (m : Nat) (w : World) (v : Value) (l : List TxO) : Prop := ListN OuN 54 2 m w v l
theorem InN.keepT {m : Nat} {S : Nat → Prop} {w w' : World} {c : Array Value} {x : TxI} (h : InN m w c x) (k : Keep S w w') (hS : ∀ g, S g → ∀ c, w.heap[g]? ≠ some (.cells c 5 (0, 0)) ∧ w.heap[g]? ≠ some (.cells c 27 (0, 0))) : InN m w' c x := by
  obtain ⟨sv, wv, h1, h2, h3⟩ := h
  exact ⟨sv, wv, h1, h2.keepT k fun g hs c => (hS g hs c).1, h3.keepT k hS⟩
theorem OuN.keepT {m : Nat} {S : Nat → Prop} {w w' : World} {c : Array Value} {y : TxO} (h : OuN m w c y) (k : Keep S w w') (hS : ∀ g, S g → ∀ c, w.heap[g]? ≠ some (.cells c 5 (0, 0))) : OuN m w' c y := by
  obtain ⟨sv, h1, h2⟩ := h
  exact ⟨sv, h1, h2.keepT k hS⟩
theorem InN.ext {m : Nat} {w w' : World} {c : Array Value} {x : TxI} (h : InN m w c x) (k : Ext w w') : InN m w' c x := h.keepT k fun _ h => h.elim
theorem OuN.ext {m : Nat} {w w' : World} {c : Array Value} {y : TxO} (h : OuN m w c y) (k : Ext w w') : OuN m w' c y := h.keepT k fun _ h => h.elim
theorem ListN.keepT {α : Type} {R : Nat → World → Array Value → α → Prop} {T size m : Nat} {S : Nat → Prop} {w w' : World} {v : Value} {l : List α} (h : ListN R T size m w v l) (k : Keep S w w') (hS : ∀ g, S g → ∀ c, w.heap[g]? ≠ some (.cells c T (0, 0))) (hR : ∀ c x, R m w c x → R m w' c x) : ListN R T size m w' v l := by
  obtain ⟨cs, h1, h2, h3⟩ := h
  exact ⟨cs, h1, h2.keep k fun g hg hs => by obtain ⟨_, c, hc⟩ := h2.blk hg; exact hS g hs c hc, fun i a b => hR _ _ (h3 i a b)⟩
theorem InsN.ext {m : Nat} {w w' : World} {v : Value} {l : List TxI} (h : InsN m w v l) (k : Ext w w') : InsN m w' v l := ListN.keepT h k (fun _ h => h.elim) fun _ _ h => h.ext k
theorem OusN.ext {m : Nat} {w w' : World} {v : Value} {l : List TxO} (h : OusN m w v l) (k : Ext w w') : OusN m w' v l := ListN.keepT h k (fun _ h => h.elim) fun _ _ h => h.ext k
theorem ListN.nil {α : Type} (R : Nat → World → Array Value → α → Prop) (T size m : Nat) (w : World) : ListN R T size m w (.slice none 0 0) [] := ⟨[], rfl, OwnO.nil _ _ _ _, fun i h => by simp at h⟩
theorem ListN.one {α : Type} {R : Nat → World → Array Value → α → Prop} {T size m : Nat} {w : World} {v : Value} {l : List α} (h : ListN R T size m w v l) : v.oneCell' = true := by
  obtain ⟨_, _, h, _⟩ := h; exact h.one
theorem ListN.cells {α : Type} {R : Nat → World → Array Value → α → Prop} {T size m : Nat} {w : World} {v : Value} {l : List α} (h : ListN R T size m w v l) : v.cells = #[v] := by
  obtain ⟨_, _, h, _⟩ := h
  obtain ⟨q, c, e, _⟩ := h.is
  rw [e]; rfl
theorem InN.at {m : Nat} {w : World} {c : Array Value} {x : TxI} (h : InN m w c x) : InAt w c x := by
  obtain ⟨sv, wv, h1, h2, h3⟩ := h
  exact ⟨sv, wv, h1, h2.1.rd, h3.rd⟩
theorem OuN.at {m : Nat} {w : World} {c : Array Value} {y : TxO} (h : OuN m w c y) : OuAt w c y := by
  obtain ⟨sv, h1, h2⟩ := h
  exact ⟨sv, h1, h2.1.rd⟩
/-- One more. -/
theorem ListN.app {α : Type} {R : Nat → World → Array Value → α → Prop} {T size m bytes : Nat} {z : List Value} {w : World} {v : Value} {l : List α} {c : Array Value} {x : α} {K : Value → World → Prop} (h : ListN R T size m w v l) (hc : R m w c x) (hcs : c.size = size) (hcf : flat c)
    (hb : (l.length + 1) * bytes ≤ 140737488355328) (hl : l.length < 9223372036854775807) (hz : z.length = size) (hs : 0 < size) (hm : m ≤ w.heap.size)
    (hR : ∀ (S : Nat → Prop) w1 w2 c x, Keep S w1 w2 → (∀ g, S g → ∃ c, w1.heap[g]? = some (.cells c T (0, 0))) → R m w1 c x → R m w2 c x)
    (hk : ∀ v' w', ListN R T size m w' v' (l ++ [x]) → Ext w (w.alloc (.cells c T)) → Keep (blk v) w w' → (∀ g, blk v' g → blk v g ∨ w.heap.size ≤ g) → K v' w') :
    appV T size bytes z v (.slice (some ⟨w.heap.size, 0, none⟩) 1 1) (w.alloc (.cells c T)) K := by
  obtain ⟨cs, h1, h2, h3⟩ := h
  have hEA : Ext w (w.alloc (.cells c T)) := (Keep.refl _ w).alloc _
  have hOA := h2.ext hEA
  have hrA : rdS (w.alloc (.cells c T)) size (.slice (some ⟨w.heap.size, 0, none⟩) 1 1) = some (([c] : List (Array Value)).flatMap Array.toList).toArray := by
    simp only [rdS, rdN_heap]
    rw [if_neg (by omega), heap_new w _ _ rfl, Nat.one_mul]
    rw [rdO_all _ _ _ _ hcs]
    simp
  refine appO4 (ids2 := [c]) hOA hrA rfl (by intro k hk; rw [List.mem_singleton.1 hk]; exact hcs) (by intro k hk; rw [List.mem_singleton.1 hk]; exact hcf) (by omega) (by rw [h1]; exact hb) hz (Nat.le_trans hm hEA.size) hs fun v' w' k1 k2 k3 => ?_
  have hSb : ∀ g, blk v g → ∃ c', (w.alloc (.cells c T)).heap[g]? = some (.cells c' T (0, 0)) := fun g hg => (hOA.blk hg).2
  refine hk v' w' ⟨cs ++ [c], by simp [h1], k1, fun i a b => ?_⟩ hEA ((hEA.mono fun _ h => h.elim).trans k2 fun _ _ h => h) fun g hg => ?_
  · by_cases hi : i < cs.length
    · rw [List.getElem_append_left hi, List.getElem_append_left (by omega)]
      exact hR _ _ _ _ _ k2 hSb (hR _ _ _ _ _ hEA (fun _ h => h.elim) (h3 i hi (by omega)))
    · rw [List.length_append, List.length_singleton] at a
      have hie : i = cs.length := by omega
      subst hie
      rw [List.getElem_append_right (by omega), List.getElem_append_right (by omega)]
      have := hR _ _ _ _ _ k2 hSb (hR _ _ _ _ _ hEA (fun _ h => h.elim) hc)
      simpa using this
  · rcases k3 g hg with h | h
    · exact .inl h
    · exact .inr (by rw [size_alloc] at h; omega)
theorem InN.kT {m : Nat} (S : Nat → Prop) (w1 w2 : World) (c : Array Value) (x : TxI) (k : Keep S w1 w2) (hS : ∀ g, S g → ∃ c, w1.heap[g]? = some (.cells c 50 (0, 0))) (h : InN m w1 c x) : InN m w2 c x :=
  h.keepT k fun g hs c => by obtain ⟨c', hc⟩ := hS g hs; rw [hc]; exact ⟨fun e => (by cases e), fun e => (by cases e)⟩
theorem OuN.kT {m : Nat} (S : Nat → Prop) (w1 w2 : World) (c : Array Value) (y : TxO) (k : Keep S w1 w2) (hS : ∀ g, S g → ∃ c, w1.heap[g]? = some (.cells c 54 (0, 0))) (h : OuN m w1 c y) : OuN m w2 c y :=
  h.keepT k fun g hs c => by obtain ⟨c', hc⟩ := hS g hs; rw [hc]; exact fun e => by cases e
end Go.Proofs
namespace Go.Proofs
open Go.Vc
set_option maxRecDepth 10000

theorem iC_33r {o : Option Obj} {a : Nat} {x : TxI} {sv wv : Value} (hx : x.prev.length = 32) (h : rdO o a 36 = some (iC x sv wv)) : rdO o a 33 = some (bv x.prev ++ [Value.int .u32 x.idx]).toArray := by
  cases o with
  | none => cases h
  | some y =>
    cases y with
    | cells c T fr =>
      simp only [rdO] at h ⊢
      split at h
      · rename_i hl
        rw [if_pos (by omega)]
        simp only [Option.some.injEq] at h ⊢
        have e := congrArg (fun r : Array Value => r.toList.take 33) h
        apply Array.ext'
        simp only [Array.toList_extract, List.extract_eq_take_drop] at e ⊢
        rw [show a + 33 - a = 33 by omega]
        rw [show a + 36 - a = 36 by omega, List.take_take, show min 33 36 = 33 from rfl] at e
        rw [e]
        simp only [iC]
        rw [show bv x.prev ++ [Value.int .u32 x.idx, sv, .int .u32 x.seq, wv] = (bv x.prev ++ [Value.int .u32 x.idx]) ++ [sv, .int .u32 x.seq, wv] by simp]
        rw [List.take_left' (by simp [bv_len, hx])]
      · cases h
    | _ => cases h
theorem txC_0 (t : TxV) (iv ov : Value) : (txC t iv ov)[0]? = some (.int .i32 t.ver) := rfl
theorem txC_1 (t : TxV) (iv ov : Value) : (txC t iv ov)[1]? = some iv := rfl
theorem txC_2 (t : TxV) (iv ov : Value) : (txC t iv ov)[2]? = some ov := rfl
theorem txC_3 (t : TxV) (iv ov : Value) : (txC t iv ov)[3]? = some (.int .u32 t.lock) := rfl
theorem txC_sz (t : TxV) (iv ov : Value) : (txC t iv ov).size = 4 := rfl
theorem cell_ext {w w' : World} {b i : Nat} {x : Value} (h : cellO w.heap[b]? i = some x) (k : Ext w w') : cellO w'.heap[b]? i = some x := by
  cases hb : w.heap[b]? with
  | none => rw [hb] at h; simp [cellO] at h
  | some o => rw [k.at hb (fun h => h), ← hb]; exact h
theorem RowN.base {m m' : Nat} {w : World} {v : Value} {ps : List (List Int)} (h : RowN m w v ps) (hm : m' ≤ m) : RowN m' w v ps := by
  obtain ⟨vs, h1, h2, h3⟩ := h
  exact ⟨vs, h1.base hm, h2, fun i a b => ⟨(h3 i a b).1, fun g hg => Nat.le_trans hm ((h3 i a b).2 g hg)⟩⟩
theorem ListN.blkT {α : Type} {R : Nat → World → Array Value → α → Prop} {T size m : Nat} {w : World} {v : Value} {l : List α} (h : ListN R T size m w v l) {g : Nat} (hg : blk v g) : m ≤ g ∧ ∃ c, w.heap[g]? = some (.cells c T (0, 0)) := by
  obtain ⟨_, _, h, _⟩ := h
  exact h.blk hg
theorem iC_cat (x : TxI) (u v : Value) : (bv x.prev ++ [Value.int .u32 x.idx]).toArray ++ (#[u] ++ #[Value.int .u32 x.seq, v]) = iC x u v := by
  apply Array.ext'
  simp [iC]
theorem getV_if {p : Prop} [Decidable p] {α : Type} {x : α} {K : α → Prop} (hp : p) (h : K x) : getV (if p then some x else none) K := by rw [if_pos hp, getV_some]; exact h
theorem InsN.setT {m : Nat} {w w' : World} {v : Value} {l : List TxI} {p : Nat} {c : Array Value} {T : TypeId} (h : InsN m w v l) (k : Keep (fun g => g = p) w w') (hp : w.heap[p]? = some (.cells c T (0, 0))) (h1 : T ≠ 5) (h2 : T ≠ 27) (h3 : T ≠ 50) : InsN m w' v l :=
  ListN.keepT h k (fun g hg c' e => by subst hg; rw [hp] at e; injection e with e; injection e with _ e; exact h3 e) fun _ _ hR => InN.keepT hR k fun g hg c' => by
    subst hg
    rw [hp]
    exact ⟨fun e => by injection e with e; injection e with _ e; exact h1 e, fun e => by injection e with e; injection e with _ e; exact h2 e⟩
theorem OusN.setT {m : Nat} {w w' : World} {v : Value} {l : List TxO} {p : Nat} {c : Array Value} {T : TypeId} (h : OusN m w v l) (k : Keep (fun g => g = p) w w') (hp : w.heap[p]? = some (.cells c T (0, 0))) (h1 : T ≠ 5) (h3 : T ≠ 54) : OusN m w' v l :=
  ListN.keepT h k (fun g hg c' e => by subst hg; rw [hp] at e; injection e with e; injection e with _ e; exact h3 e) fun _ _ hR => OuN.keepT hR k fun g hg c' => by
    subst hg
    rw [hp]
    exact fun e => by injection e with e; injection e with _ e; exact h1 e
structure CP (w wj : World) (p1 p2 p3 : Nat) (t : TxV) (iv ov vi vo : Value) (li : List TxI) (lo : List TxO) : Prop where
  ext : Ext w wj
  c1 : wj.heap[p1]? = some (.cells (txC t iv ov) 26 (0, 0))
  c2 : ∃ c, wj.heap[p2]? = some (.cells c 26 (0, 0)) ∧ c.size = 4
  c3 : wj.heap[p3]? = some (.cells (txC t vi vo) 26 (0, 0))
  ins : InsN w.heap.size wj vi li
  outs : OusN w.heap.size wj vo lo
  l1 : w.heap.size ≤ p1
  l2 : p1 < p2
  l3 : p2 < p3
theorem CP.keep {w wj w' : World} {p1 p2 p3 : Nat} {t : TxV} {iv ov vi vo : Value} {li : List TxI} {lo : List TxO} (h : CP w wj p1 p2 p3 t iv ov vi vo li lo) (k : Ext wj w') : CP w w' p1 p2 p3 t iv ov vi vo li lo := by
  obtain ⟨c, h2, h3⟩ := h.c2
  exact ⟨h.ext.ext k, k.at h.c1 (fun h => h), ⟨c, k.at h2 (fun h => h), h3⟩, k.at h.c3 (fun h => h), InsN.ext h.ins k, OusN.ext h.outs k, h.l1, h.l2, h.l3⟩
theorem InsN.keepS {m : Nat} {S : Nat → Prop} {w w' : World} {v : Value} {l : List TxI} {T : TypeId} (h : InsN m w v l) (k : Keep S w w') (hp : ∀ g, S g → ∃ c, w.heap[g]? = some (.cells c T (0, 0))) (h1 : T ≠ 5) (h2 : T ≠ 27) (h3 : T ≠ 50) : InsN m w' v l :=
  ListN.keepT h k (fun g hg c' e => by obtain ⟨c, hc⟩ := hp g hg; rw [hc] at e; injection e with e; injection e with _ e; exact h3 e) fun _ _ hR => InN.keepT hR k fun g hg c' => by
    obtain ⟨c, hc⟩ := hp g hg
    rw [hc]
    exact ⟨fun e => by injection e with e; injection e with _ e; exact h1 e, fun e => by injection e with e; injection e with _ e; exact h2 e⟩
theorem OusN.keepS {m : Nat} {S : Nat → Prop} {w w' : World} {v : Value} {l : List TxO} {T : TypeId} (h : OusN m w v l) (k : Keep S w w') (hp : ∀ g, S g → ∃ c, w.heap[g]? = some (.cells c T (0, 0))) (h1 : T ≠ 5) (h3 : T ≠ 54) : OusN m w' v l :=
  ListN.keepT h k (fun g hg c' e => by obtain ⟨c, hc⟩ := hp g hg; rw [hc] at e; injection e with e; injection e with _ e; exact h3 e) fun _ _ hR => OuN.keepT hR k fun g hg c' => by
    obtain ⟨c, hc⟩ := hp g hg
    rw [hc]
    exact fun e => by injection e with e; injection e with _ e; exact h1 e
theorem at_T {S : Nat → Prop} {w w' : World} {g : Nat} {c : Array Value} {T T' : TypeId} (k : Keep S w w') (hp : ∀ g, S g → ∃ c, w.heap[g]? = some (.cells c T' (0, 0))) (h : w.heap[g]? = some (.cells c T (0, 0))) (hT : T ≠ T') : w'.heap[g]? = some (.cells c T (0, 0)) :=
  k.at h fun hs => by obtain ⟨c', hc⟩ := hp g hs; rw [h] at hc; injection hc with e; injection e with _ e; exact hT e
theorem CP.put1 {w w7 w8 : World} {p1 p2 p3 : Nat} {t : TxV} {iv ov vi vo v' : Value} {li li' : List TxI} {lo : List TxO} (h : CP w w7 p1 p2 p3 t iv ov vi vo li lo) (k : Keep (blk vi) w7 w8) (hi : InsN w.heap.size w8 v' li') :
    v'.oneCell' = true ∧ wr1 w8 p3 1 ∧ CP w (w8.setCell ⟨p3, 1, none⟩ v') p1 p2 p3 t iv ov v' vo li' lo := by
  have hS : ∀ g, blk vi g → ∃ c, w7.heap[g]? = some (.cells c 50 (0, 0)) := fun g hg => (ListN.blkT h.ins hg).2
  have d3 := at_T k hS h.c3 (by decide)
  have d1 := at_T k hS h.c1 (by decide)
  obtain ⟨c2, h2, h2s⟩ := h.c2
  have d2 := at_T k hS h2 (by decide)
  have hk2 : Keep (fun g => g = p3) w8 (w8.setCell ⟨p3, 1, none⟩ v') := (Keep.refl _ w8).setCell _ fun _ => rfl
  have l1 := h.l1
  have l2 := h.l2
  have l3 := h.l3
  refine ⟨ListN.one hi, wr1_of d3 (by rw [txC_sz]; decide), (h.ext.trans k fun g hg hb => by have := (ListN.blkT h.ins hb).1; omega).trans hk2 fun g hg e => by omega, hk2.at d1 (by omega), ⟨c2, hk2.at d2 (by omega), h2s⟩, ?_, InsN.setT hi hk2 d3 (by decide) (by decide) (by decide), OusN.setT (OusN.keepS h.outs k hS (by decide) (by decide)) hk2 d3 (by decide) (by decide), l1, l2, l3⟩
  rw [heap_setCell_eq d3]; rfl
theorem CP.put2 {w w7 w8 : World} {p1 p2 p3 : Nat} {t : TxV} {iv ov vi vo v' : Value} {li : List TxI} {lo lo' : List TxO} (h : CP w w7 p1 p2 p3 t iv ov vi vo li lo) (k : Keep (blk vo) w7 w8) (hi : OusN w.heap.size w8 v' lo') :
    v'.oneCell' = true ∧ wr1 w8 p3 2 ∧ CP w (w8.setCell ⟨p3, 2, none⟩ v') p1 p2 p3 t iv ov vi v' li lo' := by
  have hS : ∀ g, blk vo g → ∃ c, w7.heap[g]? = some (.cells c 54 (0, 0)) := fun g hg => (ListN.blkT h.outs hg).2
  have d3 := at_T k hS h.c3 (by decide)
  have d1 := at_T k hS h.c1 (by decide)
  obtain ⟨c2, h2, h2s⟩ := h.c2
  have d2 := at_T k hS h2 (by decide)
  have hk2 : Keep (fun g => g = p3) w8 (w8.setCell ⟨p3, 2, none⟩ v') := (Keep.refl _ w8).setCell _ fun _ => rfl
  have l1 := h.l1
  have l2 := h.l2
  have l3 := h.l3
  refine ⟨ListN.one hi, wr1_of d3 (by rw [txC_sz]; decide), (h.ext.trans k fun g hg hb => by have := (ListN.blkT h.outs hb).1; omega).trans hk2 fun g hg e => by omega, hk2.at d1 (by omega), ⟨c2, hk2.at d2 (by omega), h2s⟩, ?_, InsN.setT (InsN.keepS h.ins k hS (by decide) (by decide) (by decide)) hk2 d3 (by decide) (by decide) (by decide), OusN.setT hi hk2 d3 (by decide) (by decide), l1, l2, l3⟩
  rw [heap_setCell_eq d3]; rfl
set_option maxHeartbeats 3200000 in
theorem rcopy_ok (w : World) (iv ov : Value) (t : TxV) (hT : TxR w iv ov t) (hok : t.Ok) (hsz : t.Sz) :
    Calls Try.prog 10 #[.agg (txC t iv ov)] w (Ret fun u w' => ∃ iv' ov', u = .agg (txC t iv' ov') ∧ InsN w.heap.size w' iv' t.ins ∧ OusN w.heap.size w' ov' t.outs ∧ Ext w w') := by
  refine calls_of_cfg c10_ok (Nat.le_of_ble_eq_true rfl) ?_
  simp only [argE_nil, argE_cons, Nat.reduceAdd, Nat.zero_add]
  have hi1 := ListR.one hT.ins
  have ho1 := ListR.one hT.outs
  have hli := ListR.len hT.ins
  have hlo := ListR.len hT.outs
  have hfx : flat (txC t iv ov) := by intro y hy; simp only [txC, List.mem_toArray, List.mem_cons, List.not_mem_nil, or_false] at hy; rcases hy with rfl | rfl | rfl | rfl <;> first | rfl | assumption
  have hcx : (Value.agg (txC t iv ov)).cells = txC t iv ov := rfl
  have hzx : (txC t iv ov).size = 4 := rfl
  (refine W_at c10_ok ?_; refine ⟨_, rfl, ?_⟩; simp (disch := first | omega | assumption | rfl | (simp only [vcS] <;> omega) | fail) only [↓ptV_l, ↓vcA, vcB, ↓vcD, vcE, ↓reduceIte, Nat.reduceEqDiff, Nat.reduceAdd, Nat.reduceMul, Nat.reduceLeDiff, Int.reduceLE, Int.reduceLT, Int.reduceEq, Int.reduceToNat, Int.reduceAdd, Int.reduceSub, Int.reduceMul, Int.reduceNeg, reduceCtorEq, Option.bind_some, Option.map_some, List.length_cons, List.length_nil, vcM, List.getElem?_toArray, List.getElem?_cons_zero, List.getElem?_cons_succ, hfx, hcx, hzx])
  have hE1 : Ext w (w.alloc (.cells (txC t iv ov) 26)) := (Keep.refl _ w).alloc _
  have c1 : (w.alloc (.cells (txC t iv ov) 26)).heap[w.heap.size]? = some (.cells (txC t iv ov) 26 (0, 0)) := heap_new _ _ _ rfl
  have s1 : (w.alloc (.cells (txC t iv ov) 26)).heap.size = w.heap.size + 1 := size_alloc _ _
  generalize World.alloc w _ = w1 at hE1 c1 s1 ⊢
  have hE2 : Ext w1 (w1.alloc (.cells (zc [(1, .int .i32 0), (2, .slice none 0 0), (1, .int .u32 0)]) 26)) := (Keep.refl _ w1).alloc _
  have c2 : (w1.alloc (.cells (zc [(1, .int .i32 0), (2, .slice none 0 0), (1, .int .u32 0)]) 26)).heap[w1.heap.size]? = some (.cells (zc [(1, .int .i32 0), (2, .slice none 0 0), (1, .int .u32 0)]) 26 (0, 0)) := heap_new _ _ _ rfl
  have s2 : (w1.alloc (.cells (zc [(1, .int .i32 0), (2, .slice none 0 0), (1, .int .u32 0)]) 26)).heap.size = w1.heap.size + 1 := size_alloc _ _
  generalize World.alloc w1 _ = w2 at hE2 c2 s2 ⊢
  rw [s1] at c2 s2
  generalize hp1 : w.heap.size = p1 at c1 c2 s1 s2 ⊢
  generalize hp2 : p1 + 1 = p2 at c2 s2 s1 ⊢
  have c12 := hE2.at c1 (fun h => h)
  (refine W_at c10_ok ?_; refine ⟨_, rfl, ?_⟩; simp (disch := first | omega | assumption | rfl | (simp only [vcS] <;> omega) | fail) only [↓ptV_l, ↓vcA, vcB, ↓vcD, vcE, ↓reduceIte, Nat.reduceEqDiff, Nat.reduceAdd, Nat.reduceMul, Nat.reduceLeDiff, Int.reduceLE, Int.reduceLT, Int.reduceEq, Int.reduceToNat, Int.reduceAdd, Int.reduceSub, Int.reduceMul, Int.reduceNeg, reduceCtorEq, Option.bind_some, Option.map_some, List.length_cons, List.length_nil, vcM, List.getElem?_toArray, List.getElem?_cons_zero, List.getElem?_cons_succ, c12, txC_0, txC_3])
  have e3 : #[Value.int IntKind.i32 t.ver] ++ (zc [(2, Value.slice none 0 0)] ++ #[Value.int IntKind.u32 t.lock]) = txC t (.slice none 0 0) (.slice none 0 0) := rfl
  rw [e3]
  have hf3 : flat (txC t (.slice none 0 0) (.slice none 0 0)) := by intro y hy; simp only [txC, List.mem_toArray, List.mem_cons, List.not_mem_nil, or_false] at hy; rcases hy with rfl | rfl | rfl | rfl <;> rfl
  refine ⟨rfl, hf3, by decide, ?_⟩
  have hE3 : Ext w2 ((w2.alloc (.cells (zc [(1, .int .i32 0), (2, .slice none 0 0), (1, .int .u32 0)]) 26)).putN w2.heap.size 0 (txC t (.slice none 0 0) (.slice none 0 0))) := ((Keep.refl _ w2).alloc _).putN _ (by intro hh; exfalso; omega)
  have c3 : ((w2.alloc (.cells (zc [(1, .int .i32 0), (2, .slice none 0 0), (1, .int .u32 0)]) 26)).putN w2.heap.size 0 (txC t (.slice none 0 0) (.slice none 0 0))).heap[w2.heap.size]? = some (.cells (txC t (.slice none 0 0) (.slice none 0 0)) 26 (0, 0)) := by
    rw [heap_putN_eq (heap_new _ _ _ rfl), splice_all (by rw [txC_sz]; rfl)]
  generalize World.putN _ _ _ _ = w3 at hE3 c3 ⊢
  generalize hp3 : w2.heap.size = p3 at c3 s2 ⊢
  have hP0 : CP w w3 p1 p2 p3 t iv ov (.slice none 0 0) (.slice none 0 0) [] [] :=
    ⟨(hE1.ext hE2).ext hE3, hE3.at c12 (fun h => h), ⟨_, hE3.at c2 (fun h => h), by decide⟩, c3, ListN.nil _ _ _ _ _, ListN.nil _ _ _ _ _, by omega, by omega, by omega⟩
  clear hE1 hE2 hE3 c1 c2 c3 c12 hf3 e3
  (refine W_at c10_ok ?_; refine ⟨_, rfl, ?_⟩; simp (disch := first | omega | assumption | rfl | (simp only [vcS] <;> omega) | fail) only [↓ptV_l, ↓vcA, vcB, ↓vcD, vcE, ↓reduceIte, Nat.reduceEqDiff, Nat.reduceAdd, Nat.reduceMul, Nat.reduceLeDiff, Int.reduceLE, Int.reduceLT, Int.reduceEq, Int.reduceToNat, Int.reduceAdd, Int.reduceSub, Int.reduceMul, Int.reduceNeg, reduceCtorEq, Option.bind_some, Option.map_some, List.length_cons, List.length_nil, vcM, List.getElem?_toArray, List.getElem?_cons_zero, List.getElem?_cons_succ])
  have L2 : ∀ (vi : Value) (k i : Nat) (wj : World) (vo : Value) (tl : Env), k + i = t.outs.length → CP w wj p1 p2 p3 t iv ov vi vo t.ins (t.outs.take i) →
      W Try.prog (Ret fun u w' => ∃ iv' ov', u = .agg (txC t iv' ov') ∧ InsN p1 w' iv' t.ins ∧ OusN p1 w' ov' t.outs ∧ Ext w w') 10 7 ((1, .pointer (some ⟨p1, 0, none⟩)) :: (2, .pointer (some ⟨p2, 0, none⟩)) :: (3, .pointer (some ⟨p3, 0, none⟩)) :: (6, .int .i64 (i : Nat)) :: tl) wj := by
    intro vi k
    induction k with
    | zero =>
      intro i wj vo tl hi hP
      have hil : ¬ ((i : Int) < (t.outs.length : Nat)) := by omega
      rw [List.take_of_length_le (by omega)] at hP
      have d1 := hP.c1
      have d3 := hP.c3
      obtain ⟨cc, d2, hcc⟩ := hP.c2
      have r4 : rdO (some (.cells (txC t vi vo) 26 (0, 0))) 0 4 = some (txC t vi vo) := rdO_all _ _ _ _ rfl
      have z4 := txC_sz t vi vo
      have o4 : okO (some (.cells cc 26 (0, 0))) 0 4 = True := by simp only [okO, hcc]; simp
      (refine W_at c10_ok ?_; refine ⟨_, rfl, ?_⟩; simp (disch := first | omega | assumption | rfl | (simp only [vcS] <;> omega) | fail) only [↓ptV_l, ↓vcA, vcB, ↓vcD, vcE, ↓reduceIte, Nat.reduceEqDiff, Nat.reduceAdd, Nat.reduceMul, Nat.reduceLeDiff, Int.reduceLE, Int.reduceLT, Int.reduceEq, Int.reduceToNat, Int.reduceAdd, Int.reduceSub, Int.reduceMul, Int.reduceNeg, reduceCtorEq, Option.bind_some, Option.map_some, List.length_cons, List.length_nil, vcM, List.getElem?_toArray, List.getElem?_cons_zero, List.getElem?_cons_succ, d1, txC_2, hlo, hil])
      (refine W_at c10_ok ?_; refine ⟨_, rfl, ?_⟩; simp (disch := first | omega | assumption | rfl | (simp only [vcS] <;> omega) | fail) only [↓ptV_l, ↓vcA, vcB, ↓vcD, vcE, ↓reduceIte, Nat.reduceEqDiff, Nat.reduceAdd, Nat.reduceMul, Nat.reduceLeDiff, Int.reduceLE, Int.reduceLT, Int.reduceEq, Int.reduceToNat, Int.reduceAdd, Int.reduceSub, Int.reduceMul, Int.reduceNeg, reduceCtorEq, Option.bind_some, Option.map_some, List.length_cons, List.length_nil, vcM, List.getElem?_toArray, List.getElem?_cons_zero, List.getElem?_cons_succ])
      (refine W_at c10_ok ?_; refine ⟨_, rfl, ?_⟩; simp (disch := first | omega | assumption | rfl | (simp only [vcS] <;> omega) | fail) only [↓ptV_l, ↓vcA, vcB, ↓vcD, vcE, ↓reduceIte, Nat.reduceEqDiff, Nat.reduceAdd, Nat.reduceMul, Nat.reduceLeDiff, Int.reduceLE, Int.reduceLT, Int.reduceEq, Int.reduceToNat, Int.reduceAdd, Int.reduceSub, Int.reduceMul, Int.reduceNeg, reduceCtorEq, Option.bind_some, Option.map_some, List.length_cons, List.length_nil, vcM, List.getElem?_toArray, List.getElem?_cons_zero, List.getElem?_cons_succ, d3, r4, z4, d2, o4])
      have hfl : flat (txC t vi vo) := by
        have a1 := ListN.one hP.ins
        have a2 := ListN.one hP.outs
        intro y hy; simp only [txC, List.mem_toArray, List.mem_cons, List.not_mem_nil, or_false] at hy; rcases hy with rfl | rfl | rfl | rfl <;> first | rfl | assumption
      refine ⟨hfl, ?_⟩
      have hk2 : Keep (fun g => g = p2) wj (wj.putN p2 0 (txC t vi vo)) := (Keep.refl _ wj).putN _ fun _ => rfl
      have d9 : (wj.putN p2 0 (txC t vi vo)).heap[p2]? = some (.cells (txC t vi vo) 26 (0, 0)) := by
        rw [heap_putN_eq d2, splice_all (by rw [hcc, txC_sz])]
      have l1 := hP.l1
      have l2 := hP.l2
      (refine W_at c10_ok ?_; refine ⟨_, rfl, ?_⟩; simp (disch := first | omega | assumption | rfl | (simp only [vcS] <;> omega) | fail) only [↓ptV_l, ↓vcA, vcB, ↓vcD, vcE, ↓reduceIte, Nat.reduceEqDiff, Nat.reduceAdd, Nat.reduceMul, Nat.reduceLeDiff, Int.reduceLE, Int.reduceLT, Int.reduceEq, Int.reduceToNat, Int.reduceAdd, Int.reduceSub, Int.reduceMul, Int.reduceNeg, reduceCtorEq, Option.bind_some, Option.map_some, List.length_cons, List.length_nil, vcM, List.getElem?_toArray, List.getElem?_cons_zero, List.getElem?_cons_succ, d9, r4, Ret_returned])
      rw [← hp1]
      exact ⟨vi, vo, rfl, InsN.setT hP.ins hk2 d2 (by decide) (by decide) (by decide), OusN.setT hP.outs hk2 d2 (by decide) (by decide), hP.ext.trans hk2 fun g hg e => by omega⟩
    | succ k ih =>
      intro i wj vo tl hi hP
      have hi0 : i < t.outs.length := by omega
      have hil : ((i : Int) < (t.outs.length : Nat)) := by omega
      have d1 := hP.c1
      have d3 := hP.c3
      have c3 : 0 ≤ (i : Int) ∧ (i : Int) < (t.outs.length : Nat) := by omega
      obtain ⟨b, o, c, cs, hov, hrd, hcs, sv, rfl, hsv⟩ := (ListR.ext hT.outs hP.ext fun _ _ h => h.ext hP.ext).at hi0
      have hoo := hok.outs _ (List.getElem_mem hi0)
      have hzo := hsz.out _ (List.getElem_mem hi0)
      have q0 := rdO_cell hrd (j := 0) (by omega)
      have q1 := rdO_cell hrd (j := 1) (by omega)
      have q0' : (oC t.outs[i] sv)[0]? = some (.int .i64 t.outs[i].val) := rfl
      have q1' : (oC t.outs[i] sv)[1]? = some sv := rfl
      rw [q0', Nat.add_zero] at q0
      rw [q1'] at q1
      (refine W_at c10_ok ?_; refine ⟨_, rfl, ?_⟩; simp (disch := first | omega | assumption | rfl | (simp only [vcS] <;> omega) | fail) only [↓ptV_l, ↓vcA, vcB, ↓vcD, vcE, ↓reduceIte, Nat.reduceEqDiff, Nat.reduceAdd, Nat.reduceMul, Nat.reduceLeDiff, Int.reduceLE, Int.reduceLT, Int.reduceEq, Int.reduceToNat, Int.reduceAdd, Int.reduceSub, Int.reduceMul, Int.reduceNeg, reduceCtorEq, Option.bind_some, Option.map_some, List.length_cons, List.length_nil, vcM, List.getElem?_toArray, List.getElem?_cons_zero, List.getElem?_cons_succ, d1, txC_2, hlo, hil])
      (refine W_at c10_ok ?_; refine ⟨_, rfl, ?_⟩; simp (disch := first | omega | assumption | rfl | (simp only [vcS] <;> omega) | fail) only [↓ptV_l, ↓vcA, vcB, ↓vcD, vcE, ↓reduceIte, Nat.reduceEqDiff, Nat.reduceAdd, Nat.reduceMul, Nat.reduceLeDiff, Int.reduceLE, Int.reduceLT, Int.reduceEq, Int.reduceToNat, Int.reduceAdd, Int.reduceSub, Int.reduceMul, Int.reduceNeg, reduceCtorEq, Option.bind_some, Option.map_some, List.length_cons, List.length_nil, vcM, List.getElem?_toArray, List.getElem?_cons_zero, List.getElem?_cons_succ])
      (refine W_at c10_ok ?_; refine ⟨_, rfl, ?_⟩; simp (disch := first | omega | assumption | rfl | (simp only [vcS] <;> omega) | fail) only [↓ptV_l, ↓vcA, vcB, ↓vcD, vcE, ↓reduceIte, Nat.reduceEqDiff, Nat.reduceAdd, Nat.reduceMul, Nat.reduceLeDiff, Int.reduceLE, Int.reduceLT, Int.reduceEq, Int.reduceToNat, Int.reduceAdd, Int.reduceSub, Int.reduceMul, Int.reduceNeg, reduceCtorEq, Option.bind_some, Option.map_some, List.length_cons, List.length_nil, vcM, List.getElem?_toArray, List.getElem?_cons_zero, List.getElem?_cons_succ, d1, d3, txC_2, hov, c3, Int.toNat_natCast, q0, q1])
      have hEd : Ext wj wj.drew := (Keep.refl _ wj).drew
      refine callV_ret (copy_ok wj.drew sv _ (hsv.ext hEd) hzo) ?_
      rintro u6 w6 hu6
      have hE6 : Ext wj w6 := hEd.ext hu6.ext
      have d16 := hE6.at d1 (fun h => h)
      have d36 := hE6.at d3 (fun h => h)
      have q06 := cell_ext q0 hE6
      have hc6 : u6.cells = #[u6] := by obtain ⟨q, c, e, _⟩ := hu6.own.rd.is; rw [e]; rfl
      have hz6 : (#[u6] : Array Value).size = 1 := rfl
      have hz7 : (#[Value.int .i64 t.outs[i].val] ++ #[u6] : Array Value).size = 2 := rfl
      have hl7 : (#[Value.int .i64 t.outs[i].val] ++ #[u6] : Array Value).toList ++ [] = (oC t.outs[i] u6).toList := rfl
      first | (simp (disch := first | omega | assumption | rfl | (simp only [vcS] <;> omega) | fail) only [↓ptV_l, ↓vcA, vcB, ↓vcD, vcE, ↓reduceIte, Nat.reduceEqDiff, Nat.reduceAdd, Nat.reduceMul, Nat.reduceLeDiff, Int.reduceLE, Int.reduceLT, Int.reduceEq, Int.reduceToNat, Int.reduceAdd, Int.reduceSub, Int.reduceMul, Int.reduceNeg, reduceCtorEq, Option.bind_some, Option.map_some, List.length_cons, List.length_nil, vcM, List.getElem?_toArray, List.getElem?_cons_zero, List.getElem?_cons_succ, d16, d36, txC_2, hov, q06, hc6, hz6]) | skip
      have hP6 := hP.keep hE6
      have hcs2 : ([Value.int .i64 t.outs[i].val, u6] ++ []).toArray = oC t.outs[i] u6 := rfl
      rw [hcs2]
      have hEA : Ext w6 (w6.alloc (.cells (oC t.outs[i] u6) 54)) := (Keep.refl _ w6).alloc _
      refine ⟨by rw [hEA.at d36 (fun h => h)]; rfl, ?_⟩
      refine ListN.app hP6.outs (x := t.outs[i]) ⟨u6, rfl, hu6.n1 ((hP.keep hEd).ext.size)⟩ rfl (oC_flat hu6.own.rd.one) ?_ ?_ rfl (by decide) hP6.ext.size OuN.kT fun v' w8 g1 g2 g3 g4 => ?_
      · rw [List.length_take]; have := hsz.outs; omega
      · rw [List.length_take]; have := hsz.outs; omega
      obtain ⟨k1, k2, hP8⟩ := hP6.put2 g3 g1
      refine ⟨k1, k2, ?_⟩
      have wi : IntKind.i64.wrap ((i : Int) + 1) = ((i + 1 : Nat) : Int) := wrap_i64 (by omega) (by have := hsz.outs; omega)
      rw [← List.take_succ_eq_append_getElem hi0] at hP8
      (refine W_at c10_ok ?_; refine ⟨_, rfl, ?_⟩; simp (disch := first | omega | assumption | rfl | (simp only [vcS] <;> omega) | fail) only [↓ptV_l, ↓vcA, vcB, ↓vcD, vcE, ↓reduceIte, Nat.reduceEqDiff, Nat.reduceAdd, Nat.reduceMul, Nat.reduceLeDiff, Int.reduceLE, Int.reduceLT, Int.reduceEq, Int.reduceToNat, Int.reduceAdd, Int.reduceSub, Int.reduceMul, Int.reduceNeg, reduceCtorEq, Option.bind_some, Option.map_some, List.length_cons, List.length_nil, vcM, List.getElem?_toArray, List.getElem?_cons_zero, List.getElem?_cons_succ, wi])
      (refine W_at c10_ok ?_; refine ⟨_, rfl, ?_⟩; simp (disch := first | omega | assumption | rfl | (simp only [vcS] <;> omega) | fail) only [↓ptV_l, ↓vcA, vcB, ↓vcD, vcE, ↓reduceIte, Nat.reduceEqDiff, Nat.reduceAdd, Nat.reduceMul, Nat.reduceLeDiff, Int.reduceLE, Int.reduceLT, Int.reduceEq, Int.reduceToNat, Int.reduceAdd, Int.reduceSub, Int.reduceMul, Int.reduceNeg, reduceCtorEq, Option.bind_some, Option.map_some, List.length_cons, List.length_nil, vcM, List.getElem?_toArray, List.getElem?_cons_zero, List.getElem?_cons_succ])
      exact ih (i + 1) _ v' _ (by omega) hP8
  have L1 : ∀ (k i : Nat) (wj : World) (vi : Value) (tl : Env), k + i = t.ins.length → CP w wj p1 p2 p3 t iv ov vi (.slice none 0 0) (t.ins.take i) [] →
      W Try.prog (Ret fun u w' => ∃ iv' ov', u = .agg (txC t iv' ov') ∧ InsN p1 w' iv' t.ins ∧ OusN p1 w' ov' t.outs ∧ Ext w w') 10 14 ((1, .pointer (some ⟨p1, 0, none⟩)) :: (2, .pointer (some ⟨p2, 0, none⟩)) :: (3, .pointer (some ⟨p3, 0, none⟩)) :: (4, .int .i64 (i : Nat)) :: tl) wj := by
    intro k
    induction k with
    | zero =>
      intro i wj vi tl hi hP
      have hil : ¬ ((i : Int) < (t.ins.length : Nat)) := by omega
      rw [List.take_of_length_le (by omega)] at hP
      have d1 := hP.c1
      (refine W_at c10_ok ?_; refine ⟨_, rfl, ?_⟩; simp (disch := first | omega | assumption | rfl | (simp only [vcS] <;> omega) | fail) only [↓ptV_l, ↓vcA, vcB, ↓vcD, vcE, ↓reduceIte, Nat.reduceEqDiff, Nat.reduceAdd, Nat.reduceMul, Nat.reduceLeDiff, Int.reduceLE, Int.reduceLT, Int.reduceEq, Int.reduceToNat, Int.reduceAdd, Int.reduceSub, Int.reduceMul, Int.reduceNeg, reduceCtorEq, Option.bind_some, Option.map_some, List.length_cons, List.length_nil, vcM, List.getElem?_toArray, List.getElem?_cons_zero, List.getElem?_cons_succ, d1, txC_1, hli, hil])
      (refine W_at c10_ok ?_; refine ⟨_, rfl, ?_⟩; simp (disch := first | omega | assumption | rfl | (simp only [vcS] <;> omega) | fail) only [↓ptV_l, ↓vcA, vcB, ↓vcD, vcE, ↓reduceIte, Nat.reduceEqDiff, Nat.reduceAdd, Nat.reduceMul, Nat.reduceLeDiff, Int.reduceLE, Int.reduceLT, Int.reduceEq, Int.reduceToNat, Int.reduceAdd, Int.reduceSub, Int.reduceMul, Int.reduceNeg, reduceCtorEq, Option.bind_some, Option.map_some, List.length_cons, List.length_nil, vcM, List.getElem?_toArray, List.getElem?_cons_zero, List.getElem?_cons_succ])
      (refine W_at c10_ok ?_; refine ⟨_, rfl, ?_⟩; simp (disch := first | omega | assumption | rfl | (simp only [vcS] <;> omega) | fail) only [↓ptV_l, ↓vcA, vcB, ↓vcD, vcE, ↓reduceIte, Nat.reduceEqDiff, Nat.reduceAdd, Nat.reduceMul, Nat.reduceLeDiff, Int.reduceLE, Int.reduceLT, Int.reduceEq, Int.reduceToNat, Int.reduceAdd, Int.reduceSub, Int.reduceMul, Int.reduceNeg, reduceCtorEq, Option.bind_some, Option.map_some, List.length_cons, List.length_nil, vcM, List.getElem?_toArray, List.getElem?_cons_zero, List.getElem?_cons_succ])
      exact L2 vi t.outs.length 0 wj _ _ (by omega) hP
    | succ k ih =>
      intro i wj vi tl hi hP
      have hi0 : i < t.ins.length := by omega
      have hil : ((i : Int) < (t.ins.length : Nat)) := by omega
      have d1 := hP.c1
      have d3 := hP.c3
      have c3 : 0 ≤ (i : Int) ∧ (i : Int) < (t.ins.length : Nat) := by omega
      obtain ⟨b, o, c, cs, hiv, hrd, hcs, sv, wv, rfl, hsv, hwv⟩ := (ListR.ext hT.ins hP.ext fun _ _ h => h.ext hP.ext).at hi0
      have hoi := hok.ins _ (List.getElem_mem hi0)
      have hzi := hsz.inp _ (List.getElem_mem hi0)
      (refine W_at c10_ok ?_; refine ⟨_, rfl, ?_⟩; simp (disch := first | omega | assumption | rfl | (simp only [vcS] <;> omega) | fail) only [↓ptV_l, ↓vcA, vcB, ↓vcD, vcE, ↓reduceIte, Nat.reduceEqDiff, Nat.reduceAdd, Nat.reduceMul, Nat.reduceLeDiff, Int.reduceLE, Int.reduceLT, Int.reduceEq, Int.reduceToNat, Int.reduceAdd, Int.reduceSub, Int.reduceMul, Int.reduceNeg, reduceCtorEq, Option.bind_some, Option.map_some, List.length_cons, List.length_nil, vcM, List.getElem?_toArray, List.getElem?_cons_zero, List.getElem?_cons_succ, d1, txC_1, hli, hil])
      (refine W_at c10_ok ?_; refine ⟨_, rfl, ?_⟩; simp (disch := first | omega | assumption | rfl | (simp only [vcS] <;> omega) | fail) only [↓ptV_l, ↓vcA, vcB, ↓vcD, vcE, ↓reduceIte, Nat.reduceEqDiff, Nat.reduceAdd, Nat.reduceMul, Nat.reduceLeDiff, Int.reduceLE, Int.reduceLT, Int.reduceEq, Int.reduceToNat, Int.reduceAdd, Int.reduceSub, Int.reduceMul, Int.reduceNeg, reduceCtorEq, Option.bind_some, Option.map_some, List.length_cons, List.length_nil, vcM, List.getElem?_toArray, List.getElem?_cons_zero, List.getElem?_cons_succ])
      (refine W_at c10_ok ?_; refine ⟨_, rfl, ?_⟩; simp (disch := first | omega | assumption | rfl | (simp only [vcS] <;> omega) | fail) only [↓ptV_l, ↓vcA, vcB, ↓vcD, vcE, ↓reduceIte, Nat.reduceEqDiff, Nat.reduceAdd, Nat.reduceMul, Nat.reduceLeDiff, Int.reduceLE, Int.reduceLT, Int.reduceEq, Int.reduceToNat, Int.reduceAdd, Int.reduceSub, Int.reduceMul, Int.reduceNeg, reduceCtorEq, Option.bind_some, Option.map_some, List.length_cons, List.length_nil, vcM, List.getElem?_toArray, List.getElem?_cons_zero, List.getElem?_cons_succ, d1, txC_1, hiv, c3, Int.toNat_natCast, hrd, hcs])
      have hfi : flat (iC t.ins[i] sv wv) := iC_flat hsv.one (RowR.one hwv)
      have hz36 : (zc [(32, Value.int .u8 0), (1, .int .u32 0), (1, .slice none 0 0), (1, .int .u32 0), (1, .slice none 0 0)]).size = 36 := rfl
      refine ⟨hfi, by omega, ?_⟩
      have hE5 : Ext wj ((wj.alloc (.cells (zc [(32, .int .u8 0), (1, .int .u32 0), (1, .slice none 0 0), (1, .int .u32 0), (1, .slice none 0 0)]) 50)).putN wj.heap.size 0 (iC t.ins[i] sv wv)) := ((Keep.refl _ wj).alloc _).putN _ (by intro hh; exfalso; omega)
      have d5 : ((wj.alloc (.cells (zc [(32, .int .u8 0), (1, .int .u32 0), (1, .slice none 0 0), (1, .int .u32 0), (1, .slice none 0 0)]) 50)).putN wj.heap.size 0 (iC t.ins[i] sv wv)).heap[wj.heap.size]? = some (.cells (iC t.ins[i] sv wv) 50 (0, 0)) := by
        rw [heap_putN_eq (heap_new _ _ _ rfl), splice_all (by rw [hz36, hcs])]
      generalize World.putN _ _ _ _ = w5 at hE5 d5 ⊢
      generalize hp5 : wj.heap.size = p5 at d5 ⊢
      have hP5 := hP.keep hE5
      have d3 := hP5.c3
      have r33 := iC_33r (o := w5.heap[p5]?) (a := 0) hoi.len (by rw [d5]; exact rdO_all _ _ _ _ hcs)
      have g33 := iC_33 hoi.len sv wv
      have g34 := iC_34 hoi.len sv wv
      have g35 := iC_35 hoi.len sv wv
      have r33' := r33
      rw [d5] at r33'
      (refine W_at c10_ok ?_; refine ⟨_, rfl, ?_⟩; simp (disch := first | omega | assumption | rfl | (simp only [vcS] <;> omega) | fail) only [↓ptV_l, ↓vcA, vcB, ↓vcD, vcE, ↓reduceIte, Nat.reduceEqDiff, Nat.reduceAdd, Nat.reduceMul, Nat.reduceLeDiff, Int.reduceLE, Int.reduceLT, Int.reduceEq, Int.reduceToNat, Int.reduceAdd, Int.reduceSub, Int.reduceMul, Int.reduceNeg, reduceCtorEq, Option.bind_some, Option.map_some, List.length_cons, List.length_nil, vcM, List.getElem?_toArray, List.getElem?_cons_zero, List.getElem?_cons_succ, d3, txC_1, d5, r33', g33, g34, g35])
      have hEd : Ext w5 w5.drew := (Keep.refl _ w5).drew
      refine callV_ret (copy_ok w5.drew sv _ ((hsv.ext hE5).ext hEd) hzi.script) ?_
      rintro u6 w6 hu6
      have hE6 : Ext w5 w6 := hEd.ext hu6.ext
      have d36 := hE6.at d3 (fun h => h)
      have d56 := hE6.at d5 (fun h => h)
      have hc6 : u6.cells = #[u6] := by obtain ⟨q, c, e, _⟩ := hu6.own.rd.is; rw [e]; rfl
      first | (simp (disch := first | omega | assumption | rfl | (simp only [vcS] <;> omega) | fail) only [↓ptV_l, ↓vcA, vcB, ↓vcD, vcE, ↓reduceIte, Nat.reduceEqDiff, Nat.reduceAdd, Nat.reduceMul, Nat.reduceLeDiff, Int.reduceLE, Int.reduceLT, Int.reduceEq, Int.reduceToNat, Int.reduceAdd, Int.reduceSub, Int.reduceMul, Int.reduceNeg, reduceCtorEq, Option.bind_some, Option.map_some, List.length_cons, List.length_nil, vcM, List.getElem?_toArray, List.getElem?_cons_zero, List.getElem?_cons_succ, d36, txC_1, d56, r33', g33, g34, g35]) | skip
      refine callV_ret (copies_ok w6 wv _ ((hwv.ext hE5).ext hE6) hzi.wit hzi.item) ?_
      rintro u7 w7 ⟨hu7, hE7⟩
      have d37 := hE7.at d36 (fun h => h)
      have d57 := hE7.at d56 (fun h => h)
      have hc7 : u7.cells = #[u7] := by
        obtain ⟨vs, h1, _⟩ := hu7
        obtain ⟨q, c, e, _⟩ := h1.is
        rw [e]; rfl
      have hs33 : (bv t.ins[i].prev ++ [Value.int .u32 t.ins[i].idx]).toArray.size = 33 := by simp [bv_len, hoi.len]
      first | (simp (disch := first | omega | assumption | rfl | (simp only [vcS] <;> omega) | fail) only [↓ptV_l, ↓vcA, vcB, ↓vcD, vcE, ↓reduceIte, Nat.reduceEqDiff, Nat.reduceAdd, Nat.reduceMul, Nat.reduceLeDiff, Int.reduceLE, Int.reduceLT, Int.reduceEq, Int.reduceToNat, Int.reduceAdd, Int.reduceSub, Int.reduceMul, Int.reduceNeg, reduceCtorEq, Option.bind_some, Option.map_some, List.length_cons, List.length_nil, vcM, List.getElem?_toArray, List.getElem?_cons_zero, List.getElem?_cons_succ, d37, txC_1, d57, r33', g33, g34, g35, hc6, hc7, hs33]) | skip
      rw [iC_cat]
      refine getV_if (iC_size hoi.len _ _) ?_
      rw [List.append_nil, Array.toArray_toList]
      have hP7 := (hP5.keep hE6).keep hE7
      have hwb : w.heap.size ≤ w6.heap.size := (hP5.keep hE6).ext.size
      have hu66 : N1 w.heap.size w7 u6 t.ins[i].script := (hu6.n1 ((hP5.keep hEd).ext.size)).ext hE7
      have hEA : Ext w7 (w7.alloc (.cells (iC t.ins[i] u6 u7) 50)) := (Keep.refl _ w7).alloc _
      have d3A := hEA.at d37 (fun h => h)
      refine ⟨by rw [d3A]; rfl, ?_⟩
      refine ListN.app hP7.ins (x := t.ins[i]) ⟨u6, u7, rfl, hu66, hu7.base hwb⟩ (iC_size hoi.len _ _) (iC_flat hu6.own.rd.one (by obtain ⟨_, h1, _⟩ := hu7; exact h1.one)) ?_ ?_ rfl (by decide) hP7.ext.size InN.kT fun v' w8 g1 g2 g3 g4 => ?_
      · rw [List.length_take]; have := hsz.ins; omega
      · rw [List.length_take]; have := hsz.ins; omega
      obtain ⟨q1, q2, hP8⟩ := hP7.put1 g3 g1
      refine ⟨q1, q2, ?_⟩
      have wi : IntKind.i64.wrap ((i : Int) + 1) = ((i + 1 : Nat) : Int) := wrap_i64 (by omega) (by have := hsz.ins; omega)
      rw [← List.take_succ_eq_append_getElem hi0] at hP8
      (refine W_at c10_ok ?_; refine ⟨_, rfl, ?_⟩; simp (disch := first | omega | assumption | rfl | (simp only [vcS] <;> omega) | fail) only [↓ptV_l, ↓vcA, vcB, ↓vcD, vcE, ↓reduceIte, Nat.reduceEqDiff, Nat.reduceAdd, Nat.reduceMul, Nat.reduceLeDiff, Int.reduceLE, Int.reduceLT, Int.reduceEq, Int.reduceToNat, Int.reduceAdd, Int.reduceSub, Int.reduceMul, Int.reduceNeg, reduceCtorEq, Option.bind_some, Option.map_some, List.length_cons, List.length_nil, vcM, List.getElem?_toArray, List.getElem?_cons_zero, List.getElem?_cons_succ, wi])
      (refine W_at c10_ok ?_; refine ⟨_, rfl, ?_⟩; simp (disch := first | omega | assumption | rfl | (simp only [vcS] <;> omega) | fail) only [↓ptV_l, ↓vcA, vcB, ↓vcD, vcE, ↓reduceIte, Nat.reduceEqDiff, Nat.reduceAdd, Nat.reduceMul, Nat.reduceLeDiff, Int.reduceLE, Int.reduceLT, Int.reduceEq, Int.reduceToNat, Int.reduceAdd, Int.reduceSub, Int.reduceMul, Int.reduceNeg, reduceCtorEq, Option.bind_some, Option.map_some, List.length_cons, List.length_nil, vcM, List.getElem?_toArray, List.getElem?_cons_zero, List.getElem?_cons_succ])
      exact ih (i + 1) _ v' _ (by omega) hP8
  exact L1 t.ins.length 0 w3 _ _ (by omega) hP0
end Go.Proofs
namespace Go.Proofs
open Go.Vc
set_option maxRecDepth 10000

theorem flat_set {size : Nat} {v : Value} : ∀ {ids : List (Array Value)} {e j : Nat} (_ : ∀ k ∈ ids, k.size = size) (_ : e < ids.length) (_ : j < size),
    (ids.set e ((ids[e]?.getD #[]).setIfInBounds j v)).flatMap Array.toList = (ids.flatMap Array.toList).set (e * size + j) v
  | [], e, j, _, h, _ => by simp at h
  | a :: ids, 0, j, hs, _, hj => by
    have ha : a.toList.length = size := by simpa using hs a (by simp)
    simp only [List.set_cons_zero, List.flatMap_cons, Nat.zero_mul, Nat.zero_add, List.getElem?_cons_zero, Option.getD_some, Array.toList_setIfInBounds]
    rw [List.set_append_left _ _ (by omega)]
  | a :: ids, e + 1, j, hs, he, hj => by
    have ha : a.toList.length = size := by simpa using hs a (by simp)
    have ih := flat_set (v := v) (ids := ids) (e := e) (j := j) (fun k hk => hs k (by simp [hk])) (by simpa using he) hj
    simp only [List.set_cons_succ, List.flatMap_cons, List.getElem?_cons_succ]
    rw [ih, List.set_append_right _ _ (by rw [ha, Nat.add_mul]; omega), ha]
    congr 2
    rw [Nat.add_mul]; omega
/-- A cell of an element is written. -/
theorem OwnO.setc {w : World} {base el size : Nat} {v : Value} {ids : List (Array Value)} (h : OwnO w base el size v ids) {e j : Nat} (he : e < ids.length) (hj : j < size) (x : Value) :
    ∃ g o cap, v = .slice (some ⟨g, o, none⟩) ids.length cap ∧ Go.Proofs.blk v g ∧ wr1 w g (o + e * size + j) ∧ OwnO (w.setCell ⟨g, o + e * size + j, none⟩ x) base el size v (ids.set e (ids[e].setIfInBounds j x)) := by
  have hid : ids[e]?.getD #[] = ids[e] := by rw [List.getElem?_eq_getElem he]; rfl
  obtain ⟨hs, ⟨rfl, rfl⟩ | ⟨g, o, cap, cur, rfl, hb, hg, hn, hcm, hle, htake⟩⟩ := h
  · simp at he
  · have h1 : (e + 1) * size ≤ ids.length * size := Nat.mul_le_mul_right _ he
    have h2 : ids.length * size ≤ cap * size := Nat.mul_le_mul_right _ hn
    rw [Nat.add_mul, Nat.one_mul] at h1
    refine ⟨g, o, cap, rfl, rfl, wr1_of hg (by omega), fun k hk => ?_, .inr ⟨g, o, cap, _, by rw [List.length_set], hb, heap_setCell_eq hg, by rw [List.length_set]; exact hn, hcm, by rw [Array.size_setIfInBounds]; exact hle, ?_⟩⟩
    · rcases List.mem_or_eq_of_mem_set hk with hk | rfl
      · exact hs k hk
      · rw [Array.size_setIfInBounds]; exact hs _ (List.getElem_mem he)
    · have hf := flat_set (v := x) hs he hj
      rw [hid] at hf
      rw [List.length_set, hf, Array.toList_setIfInBounds, ← htake, Nat.add_assoc, List.drop_set, if_neg (by omega), Nat.add_sub_cancel_left, List.take_set]
theorem OwnO.take {w : World} {base el size n c : Nat} {q : Option Addr} {ids : List (Array Value)} (h : OwnO w base el size (.slice q n c) ids) {l : Nat} (hl : l ≤ ids.length) : OwnO w base el size (.slice q l c) (ids.take l) := by
  obtain ⟨hs, ⟨e, rfl⟩ | ⟨g, o, cap, cur, e, hb, hg, hn, hcm, hle, htake⟩⟩ := h
  · have : l = 0 := by simpa using hl
    subst this
    injection e with e1 e2 e3
    subst e1 e3
    exact OwnO.nil w base el size
  · injection e with e1 e2 e3
    subst e1 e3
    have ht : (ids.take l).length = l := by rw [List.length_take]; omega
    refine ⟨fun k hk => hs k (List.mem_of_mem_take hk), .inr ⟨g, o, c, cur, by rw [ht], hb, hg, by omega, hcm, hle, ?_⟩⟩
    rw [ht, ← flat_take l hs, ← htake, List.take_take]
    congr 1
    have := Nat.mul_le_mul_right size hl
    omega
/-- Bytes in a block of bytes. -/
def B5 (w : World) (v : Value) (bs : List Int) : Prop := Rd w v bs ∧ byt bs ∧ bs.length ≤ 140737488355328 ∧ ∀ q n c, v = .slice (some q) n c → ∃ cs, w.heap[q.block]? = some (.cells cs 5 (0, 0))
theorem B5.keepT {S : Nat → Prop} {w w' : World} {v : Value} {bs : List Int} (h : B5 w v bs) (k : Keep S w w') (hS : ∀ g, S g → ∀ c, w.heap[g]? ≠ some (.cells c 5 (0, 0))) : B5 w' v bs := by
  obtain ⟨h1, h2, h3, h4⟩ := h
  have hn : ∀ q n c, v = .slice (some q) n c → ¬ S q.block := fun q n c e hs => by obtain ⟨cs, hc⟩ := h4 q n c e; exact hS _ hs cs hc
  exact ⟨h1.keep k hn, h2, h3, fun q n c e => by obtain ⟨cs, hc⟩ := h4 q n c e; exact ⟨cs, k.at hc (hn q n c e)⟩⟩
theorem B5.cut {w : World} {q : Option Addr} {n c : Nat} {bs : List Int} (h : B5 w (.slice q n c) bs) {k : Nat} (hk : k ≤ n) : B5 w (.slice q k c) (bs.take k) := by
  obtain ⟨h1, h2, h3, h4⟩ := h
  have h5 := h1.cut (l := 0) (j := k) (Nat.zero_le _) hk
  rw [advA_0, Nat.sub_zero, Nat.sub_zero, List.drop_zero] at h5
  exact ⟨h5, byt_take h2 k, by rw [List.length_take]; omega, fun q' n' c' e => by injection e with e1 e2 e3; exact h4 q' n c (by rw [e1])⟩
theorem N1.b5 {m : Nat} {w : World} {v : Value} {bs : List Int} (h : N1 m w v bs) (hb : byt bs) (hl : bs.length ≤ 140737488355328) : B5 w v bs :=
  ⟨h.1.rd, hb, hl, fun q n c e => by subst e; exact row_type h.1 rfl⟩
/-- Rows, whatever they hold. -/
def GR (m : Nat) (w : World) (v : Value) (n : Nat) : Prop := (v = .slice none 0 0 ∧ n = 0) ∨ ∃ g o cap cs, v = .slice (some ⟨g, o, none⟩) n cap ∧ m ≤ g ∧ n ≤ cap ∧ n ≤ maxLen ∧ w.heap[g]? = some (.cells cs 27 (0, 0)) ∧ o + n ≤ cs.size ∧ ∀ k, k < n → ∃ x b, cs[o + k]? = some x ∧ B5 w x b
theorem GR.keepT {m n : Nat} {S : Nat → Prop} {w w' : World} {v : Value} (h : GR m w v n) (k : Keep S w w') (hS : ∀ g, S g → ∀ c, w.heap[g]? ≠ some (.cells c 5 (0, 0)) ∧ w.heap[g]? ≠ some (.cells c 27 (0, 0))) : GR m w' v n := by
  rcases h with h | ⟨g, o, cap, cs, h1, h2, h3, h4, h5, h6, h7⟩
  · exact .inl h
  · exact .inr ⟨g, o, cap, cs, h1, h2, h3, h4, k.at h5 fun hs => (hS g hs cs).2 h5, h6, fun j hj => by obtain ⟨x, b, hx, hb⟩ := h7 j hj; exact ⟨x, b, hx, hb.keepT k fun g hs c => (hS g hs c).1⟩⟩
theorem GR.set {m n : Nat} {w : World} {v : Value} (h : GR m w v n) {g0 idx : Nat} {c0 : Array Value} {x : Value} {b : List Int} (h0 : w.heap[g0]? = some (.cells c0 27 (0, 0))) (hx : B5 w x b) : GR m (w.setCell ⟨g0, idx, none⟩ x) v n := by
  have hk : Keep (fun g => g = g0) w (w.setCell ⟨g0, idx, none⟩ x) := (Keep.refl _ w).setCell _ fun _ => rfl
  have h5 : ∀ g, g = g0 → ∀ c, w.heap[g]? ≠ some (.cells c 5 (0, 0)) := fun g hg c e => by subst hg; rw [h0] at e; injection e with e; injection e with _ e; exact absurd e (by decide)
  have hx' := hx.keepT hk h5
  rcases h with h | ⟨g, o, cap, cs, h1, h2, h3, h4, h8, h6, h7⟩
  · exact .inl h
  · by_cases hg : g = g0
    · subst hg
      rw [h0] at h8
      injection h8 with h8
      injection h8 with h8
      subst h8
      refine .inr ⟨g, o, cap, _, h1, h2, h3, h4, heap_setCell_eq h0, by rw [Array.size_setIfInBounds]; exact h6, fun j hj => ?_⟩
      by_cases hi : idx = o + j
      · exact ⟨x, b, by rw [hi, Array.getElem?_setIfInBounds_self_of_lt (by omega)], hx'⟩
      · obtain ⟨y, b', hy, hb⟩ := h7 j hj
        exact ⟨y, b', by rw [Array.getElem?_setIfInBounds_ne hi]; exact hy, hb.keepT hk h5⟩
    · exact .inr ⟨g, o, cap, cs, h1, h2, h3, h4, hk.at h8 hg, h6, fun j hj => by obtain ⟨y, b', hy, hb⟩ := h7 j hj; exact ⟨y, b', hy, hb.keepT hk h5⟩⟩
theorem GR.cut {m n c : Nat} {w : World} {q : Option Addr} (h : GR m w (.slice q n c) n) {k : Nat} (hk : k ≤ n) : GR m w (.slice q k c) k := by
  rcases h with ⟨e, rfl⟩ | ⟨g, o, cap, cs, h1, h2, h3, h4, h8, h6, h7⟩
  · have : k = 0 := by omega
    subst this
    exact .inl ⟨e, rfl⟩
  · injection h1 with e1 e2 e3
    subst e1 e3
    exact .inr ⟨g, o, c, cs, rfl, h2, by omega, by omega, h8, by omega, fun j hj => h7 j (by omega)⟩
theorem RowN.gr {m : Nat} {w : World} {v : Value} {ps : List (List Int)} (h : RowN m w v ps) (hb : ∀ p ∈ ps, byt p ∧ p.length ≤ 140737488355328) : GR m w v ps.length := by
  obtain ⟨vs, ⟨hs, ⟨rfl, e⟩ | ⟨g, o, cap, cur, rfl, hbs, hg, hn, hcm, hle, htake⟩⟩, h2, h3⟩ := h
  · have := congrArg List.length e
    rw [List.length_map, List.length_nil] at this
    exact .inl ⟨rfl, by omega⟩
  · rw [List.length_map] at hn htake ⊢
    rw [flat1_list, Nat.mul_one] at htake
    rw [Nat.mul_one] at hle
    rw [h2] at hn htake ⊢
    refine .inr ⟨g, o, cap, cur, rfl, hbs, hn, by omega, hg, by omega, fun j hj => ?_⟩
    have hj2 : j < vs.length := by omega
    refine ⟨vs[j], ps[j], ?_, (h3 j hj2 hj).b5 (hb _ (List.getElem_mem hj)).1 (hb _ (List.getElem_mem hj)).2⟩
    have := congrArg (fun l : List Value => l[j]?) htake
    rw [List.getElem?_take_of_lt hj, List.getElem?_drop, List.getElem?_eq_getElem hj2] at this
    rw [← this, Array.getElem?_toList]
/-- Rows in blocks of rows, with what they hold. -/
def GP (m : Nat) (w : World) (v : Value) (ps : List (List Int)) : Prop := (v = .slice none 0 0 ∧ ps = []) ∨ ∃ g o cap cs, v = .slice (some ⟨g, o, none⟩) ps.length cap ∧ m ≤ g ∧ ps.length ≤ cap ∧ ps.length ≤ maxLen ∧ w.heap[g]? = some (.cells cs 27 (0, 0)) ∧ o + ps.length ≤ cs.size ∧ ∀ k (h : k < ps.length), ∃ x, cs[o + k]? = some x ∧ B5 w x ps[k]
theorem GP.keepT {m : Nat} {ps : List (List Int)} {S : Nat → Prop} {w w' : World} {v : Value} (h : GP m w v ps) (k : Keep S w w') (hS : ∀ g, S g → ∀ c, w.heap[g]? ≠ some (.cells c 5 (0, 0)) ∧ w.heap[g]? ≠ some (.cells c 27 (0, 0))) : GP m w' v ps := by
  rcases h with h | ⟨g, o, cap, cs, h1, h2, h3, h4, h5, h6, h7⟩
  · exact .inl h
  · exact .inr ⟨g, o, cap, cs, h1, h2, h3, h4, k.at h5 fun hs => (hS g hs cs).2 h5, h6, fun j hj => by obtain ⟨x, hx, hb⟩ := h7 j hj; exact ⟨x, hx, hb.keepT k fun g hs c => (hS g hs c).1⟩⟩
theorem GR.gp {m n : Nat} {w : World} {v : Value} (h : GR m w v n) : ∃ ps, ps.length = n ∧ GP m w v ps ∧ ∀ p ∈ ps, byt p ∧ p.length ≤ 140737488355328 := by
  rcases h with ⟨rfl, rfl⟩ | ⟨g, o, cap, cs, rfl, h2, h3, h4, h8, h6, h7⟩
  · exact ⟨[], rfl, .inl ⟨rfl, rfl⟩, fun p hp => by cases hp⟩
  · obtain ⟨ps, hl, hps⟩ := list_choose (p := fun k b => ∃ x, cs[o + k]? = some x ∧ B5 w x b) (List.range n) (fun k hk => by obtain ⟨x, b, h1, h2⟩ := h7 k (List.mem_range.1 hk); exact ⟨b, x, h1, h2⟩)
    rw [List.length_range] at hl
    have hps2 : ∀ k (hk : k < n) (hk' : k < ps.length), ∃ x, cs[o + k]? = some x ∧ B5 w x ps[k] := fun k hk hk' => by
      have := hps k (by simpa using hk) hk'
      simpa using this
    refine ⟨ps, hl, .inr ⟨g, o, cap, cs, by rw [hl], h2, by omega, by omega, h8, by omega, fun k hk => hps2 k (by omega) hk⟩, fun p hp => ?_⟩
    obtain ⟨i, hi, rfl⟩ := List.getElem_of_mem hp
    obtain ⟨x, hx, hb⟩ := hps2 i (by omega) hi
    exact ⟨hb.2.1, hb.2.2.1⟩
theorem GP.rowR {m : Nat} {w : World} {v : Value} {ps : List (List Int)} (h : GP m w v ps) : RowR w v ps := by
  rcases h with ⟨rfl, rfl⟩ | ⟨g, o, cap, cs, rfl, h2, h3, h4, h8, h6, h7⟩
  · exact RowR.nil w
  · refine ⟨(cs.extract o (o + ps.length)).toList, ?_, ?_, ⟨some ⟨g, o, none⟩, cap, rfl, h3⟩, h4, fun i a b => ?_⟩
    · simp only [rdS, rdN_heap, Nat.mul_one]
      split
      · rename_i h0; rw [h0]; simp
      · rw [h8, rdO_some _ _ _ _ _ h6, Array.toArray_toList]
    · rw [Array.length_toList, Array.size_extract]; omega
    · have ha := a
      rw [Array.length_toList, Array.size_extract] at ha
      obtain ⟨x, hx, hb⟩ := h7 i b
      have e : (cs.extract o (o + ps.length)).toList[i]? = some x := by
        rw [Array.getElem?_toList, Array.getElem?_extract, if_pos (by omega)]; exact hx
      rw [List.getElem?_eq_getElem a] at e
      rw [Option.some.inj e]
      exact hb.1
end Go.Proofs
namespace Go.Proofs
open Go.Vc
set_option maxRecDepth 10000

theorem ListN.setc {α : Type} {R : Nat → World → Array Value → α → Prop} {T size m : Nat} {w : World} {v : Value} {l : List α} (h : ListN R T size m w v l) {g o n cap i j : Nat} (he : v = .slice (some ⟨g, o, none⟩) n cap) (hi : i < l.length) (hj : j < size) (val : Value) (x' : α)
    (hnew : ∀ c, R m w c l[i] → R m (w.setCell ⟨g, o + i * size + j, none⟩ val) (c.setIfInBounds j val) x') (hR : ∀ c x, R m w c x → R m (w.setCell ⟨g, o + i * size + j, none⟩ val) c x) :
    wr1 w g (o + i * size + j) ∧ ListN R T size m (w.setCell ⟨g, o + i * size + j, none⟩ val) v (l.set i x') := by
  obtain ⟨cs, h1, h2, h3⟩ := h
  obtain ⟨g', o', cap', e, hb, hw, hO⟩ := h2.setc (e := i) (j := j) (by omega) hj val
  rw [he] at e
  injection e with e1 e2 e3
  injection e1 with e1
  injection e1 with e4 e5
  subst e4 e5
  refine ⟨hw, cs.set i (cs[i].setIfInBounds j val), by simp [h1], hO, fun k a b => ?_⟩
  rw [List.length_set] at a b
  by_cases hk : i = k
  · subst hk
    rw [List.getElem_set_self, List.getElem_set_self]
    exact hnew _ (h3 i (by omega) hi)
  · rw [List.getElem_set_ne hk, List.getElem_set_ne hk]
    exact hR _ _ (h3 k a b)
theorem ListN.at {α : Type} {R : Nat → World → Array Value → α → Prop} {T size m : Nat} {w : World} {v : Value} {l : List α} (h : ListN R T size m w v l) {i : Nat} (hi : i < l.length) :
    ∃ g o cap c, v = .slice (some ⟨g, o, none⟩) l.length cap ∧ rdO w.heap[g]? (o + i * size) size = some c ∧ R m w c l[i] ∧ m ≤ g ∧ ∃ cur, w.heap[g]? = some (.cells cur T (0, 0)) := by
  obtain ⟨cs, h1, h2, h3⟩ := h
  obtain ⟨g, o, cap, cur, e, hg, hr⟩ := h2.at (j := i) (by omega)
  rw [h1] at e
  exact ⟨g, o, cap, cs[i], e, hr, h3 i (by omega) hi, (h2.blk (g := g) (by rw [e]; rfl)).1, cur, hg⟩
theorem ListN.len {α : Type} {R : Nat → World → Array Value → α → Prop} {T size m : Nat} {w : World} {v : Value} {l : List α} (h : ListN R T size m w v l) : lenR v = some (.int .i64 (l.length : Nat)) := by
  obtain ⟨cs, h1, h2, _⟩ := h
  rw [h2.len, h1]
theorem ListN.is {α : Type} {R : Nat → World → Array Value → α → Prop} {T size m : Nat} {w : World} {v : Value} {l : List α} (h : ListN R T size m w v l) : ∃ q c, v = .slice q l.length c ∧ l.length ≤ c := by
  obtain ⟨cs, h1, h2, _⟩ := h
  obtain ⟨q, c, e, hc⟩ := h2.is
  exact ⟨q, c, by rw [e, h1], by omega⟩
theorem ListN.take {α : Type} {R : Nat → World → Array Value → α → Prop} {T size m n c : Nat} {w : World} {q : Option Addr} {l : List α} (h : ListN R T size m w (.slice q n c) l) {k : Nat} (hk : k ≤ l.length) : ListN R T size m w (.slice q k c) (l.take k) := by
  obtain ⟨cs, h1, h2, h3⟩ := h
  refine ⟨cs.take k, by simp [h1], h2.take (by omega), fun i a b => ?_⟩
  rw [List.length_take] at a b
  rw [List.getElem_take, List.getElem_take]
  exact h3 i (by omega) (by omega)
def IG (m : Nat) (w : World) (c : Array Value) (x : TxI) : Prop := ∃ sv wv n, c = iC x sv wv ∧ B5 w sv x.script ∧ GR m w wv n ∧ n * 24 ≤ 140737488355328
def OG (_ : Nat) (w : World) (c : Array Value) (y : TxO) : Prop := ∃ sv, c = oC y sv ∧ B5 w sv y.script
theorem IG.keepT {m : Nat} {S : Nat → Prop} {w w' : World} {c : Array Value} {x : TxI} (h : IG m w c x) (k : Keep S w w') (hS : ∀ g, S g → ∀ c, w.heap[g]? ≠ some (.cells c 5 (0, 0)) ∧ w.heap[g]? ≠ some (.cells c 27 (0, 0))) : IG m w' c x := by
  obtain ⟨sv, wv, n, h1, h2, h3, h4⟩ := h
  exact ⟨sv, wv, n, h1, h2.keepT k fun g hs c => (hS g hs c).1, h3.keepT k hS, h4⟩
theorem OG.keepT {m : Nat} {S : Nat → Prop} {w w' : World} {c : Array Value} {y : TxO} (h : OG m w c y) (k : Keep S w w') (hS : ∀ g, S g → ∀ c, w.heap[g]? ≠ some (.cells c 5 (0, 0))) : OG m w' c y := by
  obtain ⟨sv, h1, h2⟩ := h
  exact ⟨sv, h1, h2.keepT k hS⟩
/-- What 'Few' has in its hands. -/
structure FwS (w wj : World) (p3 p6 : Nat) (t : TxV) (vi vo : Value) (li : List TxI) (lo : List TxO) : Prop where
  ext : Ext w wj
  c3 : wj.heap[p3]? = some (.cells (txC t vi vo) 26 (0, 0))
  c6 : ∃ c, wj.heap[p6]? = some (.cells c 26 (0, 0)) ∧ c.size = 4
  ins : ListN IG 50 36 w.heap.size wj vi li
  outs : ListN OG 54 2 w.heap.size wj vo lo
  l3 : w.heap.size ≤ p3
  l6 : w.heap.size ≤ p6
  ne : p3 ≠ p6
  okI : ∀ x ∈ li, x.Ok
  okO : ∀ y ∈ lo, y.Ok
section
variable {w wj w' : World} {p3 p6 : Nat} {t : TxV} {vi vo : Value} {li : List TxI} {lo : List TxO}
theorem FwS.keep (h : FwS w wj p3 p6 t vi vo li lo) (k : Ext wj w') : FwS w w' p3 p6 t vi vo li lo := by
  obtain ⟨c, h2, h3⟩ := h.c6
  exact ⟨h.ext.ext k, k.at h.c3 (fun h => h), ⟨c, k.at h2 (fun h => h), h3⟩, ListN.keepT h.ins k (fun _ h => h.elim) fun _ _ h => IG.keepT h k fun _ h => h.elim, ListN.keepT h.outs k (fun _ h => h.elim) fun _ _ h => OG.keepT h k fun _ h => h.elim, h.l3, h.l6, h.ne, h.okI, h.okO⟩
theorem ne_T {g : Nat} {c : Array Value} {T T' : TypeId} (h : w.heap[g]? = some (.cells c T (0, 0))) (hT : T ≠ T') : ∀ c', w.heap[g]? ≠ some (.cells c' T' (0, 0)) := fun c' e => by rw [h] at e; injection e with e; injection e with _ e; exact hT e
/-- A step that changes one block, which is the caller's own. -/
theorem FwS.put1 (h : FwS w wj p3 p6 t vi vo li lo) {v' : Value} {l' : List TxI} (hv : ListN IG 50 36 w.heap.size wj v' l') (hs : ∀ x ∈ l', x ∈ li) : wr1 wj p3 1 ∧ FwS w (wj.setCell ⟨p3, 1, none⟩ v') p3 p6 t v' vo l' lo := by
  have hk : Keep (fun g => g = p3) wj (wj.setCell ⟨p3, 1, none⟩ v') := (Keep.refl _ wj).setCell _ fun _ => rfl
  have n5 := ne_T (T' := 5) h.c3 (by decide)
  have n27 := ne_T (T' := 27) h.c3 (by decide)
  have n50 := ne_T (T' := 50) h.c3 (by decide)
  have n54 := ne_T (T' := 54) h.c3 (by decide)
  obtain ⟨c, h2, h3⟩ := h.c6
  have l3 := h.l3
  have ne := h.ne
  exact ⟨wr1_of h.c3 (by rw [txC_sz]; decide), h.ext.trans hk fun g hg e => by omega, by rw [heap_setCell_eq h.c3]; rfl, ⟨c, hk.at h2 (by omega), h3⟩,
    ListN.keepT hv hk (fun g hg c => by subst hg; exact n50 c) fun _ _ hR => IG.keepT hR hk fun g hg c => by subst hg; exact ⟨n5 c, n27 c⟩,
    ListN.keepT h.outs hk (fun g hg c => by subst hg; exact n54 c) fun _ _ hR => OG.keepT hR hk fun g hg c => by subst hg; exact n5 c, h.l3, h.l6, h.ne, fun x hx => h.okI x (hs x hx), h.okO⟩
theorem FwS.put2 (h : FwS w wj p3 p6 t vi vo li lo) {v' : Value} {l' : List TxO} (hv : ListN OG 54 2 w.heap.size wj v' l') (hs : ∀ x ∈ l', x ∈ lo) : wr1 wj p3 2 ∧ FwS w (wj.setCell ⟨p3, 2, none⟩ v') p3 p6 t vi v' li l' := by
  have hk : Keep (fun g => g = p3) wj (wj.setCell ⟨p3, 2, none⟩ v') := (Keep.refl _ wj).setCell _ fun _ => rfl
  have n5 := ne_T (T' := 5) h.c3 (by decide)
  have n27 := ne_T (T' := 27) h.c3 (by decide)
  have n50 := ne_T (T' := 50) h.c3 (by decide)
  have n54 := ne_T (T' := 54) h.c3 (by decide)
  obtain ⟨c, h2, h3⟩ := h.c6
  have l3 := h.l3
  have ne := h.ne
  exact ⟨wr1_of h.c3 (by rw [txC_sz]; decide), h.ext.trans hk fun g hg e => by omega, by rw [heap_setCell_eq h.c3]; rfl, ⟨c, hk.at h2 (by omega), h3⟩,
    ListN.keepT h.ins hk (fun g hg c => by subst hg; exact n50 c) fun _ _ hR => IG.keepT hR hk fun g hg c => by subst hg; exact ⟨n5 c, n27 c⟩,
    ListN.keepT hv hk (fun g hg c => by subst hg; exact n54 c) fun _ _ hR => OG.keepT hR hk fun g hg c => by subst hg; exact n5 c, h.l3, h.l6, h.ne, h.okI, fun x hx => h.okO x (hs x hx)⟩
/-- A cell of an input is written. -/
theorem FwS.setI (h : FwS w wj p3 p6 t vi vo li lo) {g o n cap i j : Nat} (he : vi = .slice (some ⟨g, o, none⟩) n cap) (hi : i < li.length) (hj : j < 36) (val : Value) (x' : TxI) (hx' : x'.Ok)
    (hnew : ∀ w' c, Keep (fun y => y = g) wj w' → (∀ c', wj.heap[g]? ≠ some (.cells c' 5 (0, 0)) ∧ wj.heap[g]? ≠ some (.cells c' 27 (0, 0))) → IG w.heap.size wj c li[i] → IG w.heap.size w' (c.setIfInBounds j val) x') :
    wr1 wj g (o + i * 36 + j) ∧ FwS w (wj.setCell ⟨g, o + i * 36 + j, none⟩ val) p3 p6 t vi vo (li.set i x') lo := by
  have hk : Keep (fun y => y = g) wj (wj.setCell ⟨g, o + i * 36 + j, none⟩ val) := (Keep.refl _ wj).setCell _ fun _ => rfl
  obtain ⟨hm, cur, hg⟩ := ListN.blkT h.ins (g := g) (by rw [he]; rfl)
  have n5 := ne_T (T' := 5) hg (by decide)
  have n27 := ne_T (T' := 27) hg (by decide)
  have n26 := ne_T (T' := 26) hg (by decide)
  have n54 := ne_T (T' := 54) hg (by decide)
  obtain ⟨c, h2, h3⟩ := h.c6
  obtain ⟨hw, hL⟩ := ListN.setc h.ins he hi hj val x' (fun c hc => hnew _ c hk (fun c' => ⟨n5 c', n27 c'⟩) hc) fun c x hR => IG.keepT hR hk fun g' hg' c => by subst hg'; exact ⟨n5 c, n27 c⟩
  refine ⟨hw, h.ext.trans hk fun y hy e => by omega, hk.at h.c3 fun e => n26 _ (e ▸ h.c3), ⟨c, hk.at h2 fun e => n26 _ (e ▸ h2), h3⟩, hL,
    ListN.keepT h.outs hk (fun g' hg' c => by subst hg'; exact n54 c) fun _ _ hR => OG.keepT hR hk fun g' hg' c => by subst hg'; exact n5 c, h.l3, h.l6, h.ne, fun x hx => ?_, h.okO⟩
  rcases List.mem_or_eq_of_mem_set hx with hx | rfl
  · exact h.okI x hx
  · exact hx'
theorem FwS.setO (h : FwS w wj p3 p6 t vi vo li lo) {g o n cap i j : Nat} (he : vo = .slice (some ⟨g, o, none⟩) n cap) (hi : i < lo.length) (hj : j < 2) (val : Value) (x' : TxO) (hx' : x'.Ok)
    (hnew : ∀ w' c, Keep (fun y => y = g) wj w' → (∀ c', wj.heap[g]? ≠ some (.cells c' 5 (0, 0))) → OG w.heap.size wj c lo[i] → OG w.heap.size w' (c.setIfInBounds j val) x') :
    wr1 wj g (o + i * 2 + j) ∧ FwS w (wj.setCell ⟨g, o + i * 2 + j, none⟩ val) p3 p6 t vi vo li (lo.set i x') := by
  have hk : Keep (fun y => y = g) wj (wj.setCell ⟨g, o + i * 2 + j, none⟩ val) := (Keep.refl _ wj).setCell _ fun _ => rfl
  obtain ⟨hm, cur, hg⟩ := ListN.blkT h.outs (g := g) (by rw [he]; rfl)
  have n5 := ne_T (T' := 5) hg (by decide)
  have n27 := ne_T (T' := 27) hg (by decide)
  have n26 := ne_T (T' := 26) hg (by decide)
  have n50 := ne_T (T' := 50) hg (by decide)
  obtain ⟨c, h2, h3⟩ := h.c6
  obtain ⟨hw, hL⟩ := ListN.setc h.outs he hi hj val x' (fun c hc => hnew _ c hk n5 hc) fun c x hR => OG.keepT hR hk fun g' hg' c => by subst hg'; exact n5 c
  refine ⟨hw, h.ext.trans hk fun y hy e => by omega, hk.at h.c3 fun e => n26 _ (e ▸ h.c3), ⟨c, hk.at h2 fun e => n26 _ (e ▸ h2), h3⟩, ListN.keepT h.ins hk (fun g' hg' c => by subst hg'; exact n50 c) fun _ _ hR => IG.keepT hR hk fun g' hg' c => by subst hg'; exact ⟨n5 c, n27 c⟩,
    hL, h.l3, h.l6, h.ne, h.okI, fun x hx => ?_⟩
  rcases List.mem_or_eq_of_mem_set hx with hx | rfl
  · exact h.okO x hx
  · exact hx'
/-- A row is written. -/
theorem FwS.setR (h : FwS w wj p3 p6 t vi vo li lo) {g0 idx : Nat} {c0 : Array Value} {x : Value} {b : List Int} (hm : w.heap.size ≤ g0) (h0 : wj.heap[g0]? = some (.cells c0 27 (0, 0))) (hi : idx < c0.size) (hx : B5 wj x b) :
    wr1 wj g0 idx ∧ FwS w (wj.setCell ⟨g0, idx, none⟩ x) p3 p6 t vi vo li lo := by
  have hk : Keep (fun y => y = g0) wj (wj.setCell ⟨g0, idx, none⟩ x) := (Keep.refl _ wj).setCell _ fun _ => rfl
  have n5 := ne_T (T' := 5) h0 (by decide)
  have n26 := ne_T (T' := 26) h0 (by decide)
  have n50 := ne_T (T' := 50) h0 (by decide)
  have n54 := ne_T (T' := 54) h0 (by decide)
  obtain ⟨c, h2, h3⟩ := h.c6
  refine ⟨wr1_of h0 hi, h.ext.trans hk fun y hy e => by omega, hk.at h.c3 fun e => n26 _ (e ▸ h.c3), ⟨c, hk.at h2 fun e => n26 _ (e ▸ h2), h3⟩, ListN.keepT h.ins hk (fun g' hg' c => by subst hg'; exact n50 c) fun _ _ hR => ?_,
    ListN.keepT h.outs hk (fun g' hg' c => by subst hg'; exact n54 c) fun _ _ hR => OG.keepT hR hk fun g' hg' c => by subst hg'; exact n5 c, h.l3, h.l6, h.ne, h.okI, h.okO⟩
  obtain ⟨sv, wv, n, k1, k2, k3, k4⟩ := hR
  exact ⟨sv, wv, n, k1, k2.keepT hk fun g' hg' c => by subst hg'; exact n5 c, k3.set h0 hx, k4⟩
end
end Go.Proofs
namespace Go.Proofs
open Go.Vc
set_option maxRecDepth 10000

/-- A transaction within bounds. -/
structure TxV.Lim (t : TxV) (n b : Nat) : Prop where
  ins : t.ins.length ≤ n
  outs : t.outs.length ≤ n
  inp : ∀ x ∈ t.ins, x.script.length ≤ b
  out : ∀ y ∈ t.outs, y.script.length ≤ b
theorem InN.ig {m : Nat} {w : World} {c : Array Value} {x : TxI} (h : InN m w c x) (hk : x.Ok) (hz : x.Sz) : IG m w c x := by
  obtain ⟨sv, wv, h1, h2, h3⟩ := h
  exact ⟨sv, wv, _, h1, h2.b5 hk.script hz.script, h3.gr fun p hp => ⟨hk.wit p hp, hz.item p hp⟩, hz.wit⟩
theorem OuN.og {m : Nat} {w : World} {c : Array Value} {y : TxO} (h : OuN m w c y) (hk : y.Ok) (hz : y.script.length ≤ 140737488355328) : OG m w c y := by
  obtain ⟨sv, h1, h2⟩ := h
  exact ⟨sv, h1, h2.b5 hk.script hz⟩
/-- What 'Few' hands back. -/
def IP (m : Nat) (w : World) (c : Array Value) (x : TxI) : Prop := ∃ sv wv, c = iC x sv wv ∧ B5 w sv x.script ∧ GP m w wv x.wit
structure TxT (m : Nat) (w : World) (iv ov : Value) (t : TxV) : Prop where
  ins : ListN IP 50 36 m w iv t.ins
  outs : ListN OG 54 2 m w ov t.outs
theorem IP.keepT {m : Nat} {S : Nat → Prop} {w w' : World} {c : Array Value} {x : TxI} (h : IP m w c x) (k : Keep S w w') (hS : ∀ g, S g → ∀ c, w.heap[g]? ≠ some (.cells c 5 (0, 0)) ∧ w.heap[g]? ≠ some (.cells c 27 (0, 0))) : IP m w' c x := by
  obtain ⟨sv, wv, h1, h2, h3⟩ := h
  exact ⟨sv, wv, h1, h2.keepT k fun g hs c => (hS g hs c).1, h3.keepT k hS⟩
theorem TxT.keepT {m : Nat} {S : Nat → Prop} {w w' : World} {iv ov : Value} {t : TxV} (h : TxT m w iv ov t) (k : Keep S w w') (hS : ∀ g, S g → ∃ c T, w.heap[g]? = some (.cells c T (0, 0)) ∧ T ≠ 5 ∧ T ≠ 27 ∧ T ≠ 50 ∧ T ≠ 54) : TxT m w' iv ov t := by
  have hn : ∀ g, S g → ∀ T' c', (T' = 5 ∨ T' = 27 ∨ T' = 50 ∨ T' = 54) → w.heap[g]? ≠ some (.cells c' T' (0, 0)) := fun g hg T' c' hT' e => by
    obtain ⟨c, T, hc, a1, a2, a3, a4⟩ := hS g hg
    rw [hc] at e
    injection e with e
    injection e with _ e
    subst e
    rcases hT' with h | h | h | h
    · exact a1 h
    · exact a2 h
    · exact a3 h
    · exact a4 h
  exact ⟨ListN.keepT h.ins k (fun g hg c => hn g hg _ c (.inr (.inr (.inl rfl)))) fun _ _ h => IP.keepT h k fun g hg c => ⟨hn g hg _ c (.inl rfl), hn g hg _ c (.inr (.inl rfl))⟩,
    ListN.keepT h.outs k (fun g hg c => hn g hg _ c (.inr (.inr (.inr rfl)))) fun _ _ h => OG.keepT h k fun g hg c => hn g hg _ c (.inl rfl)⟩
theorem IG.in {m : Nat} {w : World} {c : Array Value} {x : TxI} (h : IG m w c x) (hk : x.Ok) : ∃ ps, IP m w c { x with wit := ps } ∧ ({ x with wit := ps } : TxI).Ok ∧ ({ x with wit := ps } : TxI).Sz := by
  obtain ⟨sv, wv, n, h1, h2, h3, h4⟩ := h
  obtain ⟨ps, e1, e2, e3⟩ := h3.gp
  exact ⟨ps, ⟨sv, wv, h1, h2, e2⟩, ⟨hk.len, hk.prev, hk.idx, hk.script, hk.seq, fun b hb => (e3 b hb).1⟩, ⟨h2.2.2.1, by rw [e1]; exact h4, fun p hp => (e3 p hp).2⟩⟩
theorem ListN.imp {α : Type} {R R' : Nat → World → Array Value → α → Prop} {T size m m' : Nat} {w : World} {v : Value} {l : List α} (h : ListN R T size m w v l) (hm : m' ≤ m) (hR : ∀ c x, x ∈ l → R m w c x → R' m' w c x) : ListN R' T size m' w v l := by
  obtain ⟨cs, h1, h2, h3⟩ := h
  exact ⟨cs, h1, h2.base hm, fun i a b => hR _ _ (List.getElem_mem b) (h3 i a b)⟩
theorem N1.base {m m' : Nat} {w : World} {v : Value} {bs : List Int} (h : N1 m w v bs) (hm : m' ≤ m) : N1 m' w v bs := ⟨h.1, fun g hg => Nat.le_trans hm (h.2 g hg)⟩
theorem InN.base {m m' : Nat} {w : World} {c : Array Value} {x : TxI} (h : InN m w c x) (hm : m' ≤ m) : InN m' w c x := by
  obtain ⟨sv, wv, h1, h2, h3⟩ := h
  exact ⟨sv, wv, h1, h2.base hm, h3.base hm⟩
theorem OuN.base {m m' : Nat} {w : World} {c : Array Value} {y : TxO} (h : OuN m w c y) (hm : m' ≤ m) : OuN m' w c y := by
  obtain ⟨sv, h1, h2⟩ := h
  exact ⟨sv, h1, h2.base hm⟩
theorem OwnO.mx {w : World} {base el size : Nat} {v : Value} {ids : List (Array Value)} (h : OwnO w base el size v ids) : ids.length ≤ maxLen := by
  obtain ⟨_, ⟨_, rfl⟩ | ⟨g, o, cap, cur, e, hb, hg, hn, hcm, _⟩⟩ := h
  · exact Nat.zero_le _
  · omega
theorem FwS.fin {w wj w' : World} {p3 p6 : Nat} {t : TxV} {vi vo : Value} {li : List TxI} {lo : List TxO} (h : FwS w wj p3 p6 t vi vo li lo) (k : Keep (fun g => g = p6) wj w') :
    ∃ li' : List TxI, li'.length = li.length ∧ ListN IP 50 36 w.heap.size w' vi li' ∧ ListN OG 54 2 w.heap.size w' vo lo ∧ (∀ x ∈ li', x.Ok ∧ x.Sz) ∧ (∀ y ∈ lo, y.script.length ≤ 140737488355328) ∧ ∀ b, (∀ x ∈ li, x.script.length ≤ b) → ∀ x ∈ li', x.script.length ≤ b := by
  obtain ⟨c6, h6, _⟩ := h.c6
  have n5 := ne_T (T' := 5) h6 (by decide)
  have n27 := ne_T (T' := 27) h6 (by decide)
  have n50 := ne_T (T' := 50) h6 (by decide)
  have n54 := ne_T (T' := 54) h6 (by decide)
  have hI := ListN.keepT h.ins k (fun g hg c => by subst hg; exact n50 c) fun _ _ hR => IG.keepT hR k fun g hg c => by subst hg; exact ⟨n5 c, n27 c⟩
  have hO := ListN.keepT h.outs k (fun g hg c => by subst hg; exact n54 c) fun _ _ hR => OG.keepT hR k fun g hg c => by subst hg; exact n5 c
  obtain ⟨cs, a1, a2, a3⟩ := hI
  obtain ⟨ds, b1, b2, b3⟩ := hO
  obtain ⟨li', e1, e2⟩ := list_choose (p := fun i (x' : TxI) => ∀ (h1 : i < cs.length) (h2 : i < li.length), IP w.heap.size w' cs[i] x' ∧ x'.Ok ∧ x'.Sz ∧ x'.script = li[i].script) (List.range li.length) (fun i hi => by
    have hi := List.mem_range.1 hi
    obtain ⟨ps, f1, f2, f3⟩ := (a3 i (by omega) hi).in (h.okI _ (List.getElem_mem hi))
    exact ⟨_, fun _ _ => ⟨f1, f2, f3, rfl⟩⟩)
  rw [List.length_range] at e1
  have e3 : ∀ i (h1 : i < cs.length) (h2 : i < li.length) (h3 : i < li'.length), IP w.heap.size w' cs[i] li'[i] ∧ li'[i].Ok ∧ li'[i].Sz ∧ li'[i].script = li[i].script := fun i h1 h2 h3 => by
    have e := List.getElem_range (n := li.length) (j := i) (by simpa using h2)
    have := e2 i (by simpa using h2) h3
    rw [e] at this
    exact this h1 h2
  refine ⟨li', e1, ⟨cs, by omega, a2, fun i x y => (e3 i x (by omega) y).1⟩, ⟨ds, b1, b2, b3⟩, fun x hx => ?_, fun y hy => ?_, fun b hb x hx => ?_⟩
  · obtain ⟨i, hi, rfl⟩ := List.getElem_of_mem hx
    have := e3 i (by omega) (by omega) hi
    exact ⟨this.2.1, this.2.2.1⟩
  · obtain ⟨i, hi, rfl⟩ := List.getElem_of_mem hy
    obtain ⟨sv, r1, r2⟩ := b3 i (by omega) hi
    exact r2.2.2.1
  · obtain ⟨i, hi, rfl⟩ := List.getElem_of_mem hx
    have := e3 i (by omega) (by omega) hi
    rw [this.2.2.2]
    exact hb _ (List.getElem_mem _)
/-- The outputs' scripts one by one, and the end. -/
def FewQ (w : World) (n by' : Nat) : Ending → World → Prop := Ret fun u w' => ∃ t' iv' ov', u = .agg (txC t' iv' ov') ∧ TxT w.heap.size w' iv' ov' t' ∧ t'.Ok ∧ t'.Sz ∧ t'.Lim n by' ∧ Ext w w'
set_option maxHeartbeats 3200000 in
theorem few_outs (w : World) (p3 p6 : Nat) (t : TxV) (n by' : Nat) (hok : t.Ok) (hn : n ≤ 100) (hb : by' ≤ 100000) (vi : Value) (li : List TxI) (hli : li.length ≤ n) (hls : ∀ x ∈ li, x.script.length ≤ by') :
    ∀ (k i : Nat) (wj : World) (vo : Value) (lo : List TxO) (tl : Env), k + i = lo.length → lo.length ≤ n → FwS w wj p3 p6 t vi vo li lo → (∀ j (h : j < lo.length), j < i → lo[j].script.length ≤ by') →
      W Try.prog (FewQ w n by') 18 9 ((2, .int .i64 (by' : Nat)) :: (3, .pointer (some ⟨p3, 0, none⟩)) :: (6, .pointer (some ⟨p6, 0, none⟩)) :: (9, .int .i64 (i : Nat)) :: tl) wj := by
  intro k
  induction k with
  | zero =>
    intro i wj vo lo tl hi hlo hP hd
    have hil : ¬ ((i : Int) < (lo.length : Nat)) := by omega
    have d3 := hP.c3
    have hlen := ListN.len hP.outs
    obtain ⟨cc, d6, hcc⟩ := hP.c6
    have r4 : rdO (some (.cells (txC t vi vo) 26 (0, 0))) 0 4 = some (txC t vi vo) := rdO_all _ _ _ _ rfl
    have z4 := txC_sz t vi vo
    have o4 : okO (some (.cells cc 26 (0, 0))) 0 4 = True := by simp only [okO, hcc]; simp
    (refine W_at c18_ok ?_; refine ⟨_, rfl, ?_⟩; simp (disch := first | omega | assumption | rfl | (simp only [vcS] <;> omega) | fail) only [↓ptV_l, ↓vcA, vcB, ↓vcD, vcE, ↓reduceIte, Nat.reduceEqDiff, Nat.reduceAdd, Nat.reduceMul, Nat.reduceLeDiff, Int.reduceLE, Int.reduceLT, Int.reduceEq, Int.reduceToNat, Int.reduceAdd, Int.reduceSub, Int.reduceMul, Int.reduceNeg, reduceCtorEq, Option.bind_some, Option.map_some, List.length_cons, List.length_nil, vcM, List.getElem?_toArray, List.getElem?_cons_zero, List.getElem?_cons_succ, d3, txC_2, hlen, hil])
    (refine W_at c18_ok ?_; refine ⟨_, rfl, ?_⟩; simp (disch := first | omega | assumption | rfl | (simp only [vcS] <;> omega) | fail) only [↓ptV_l, ↓vcA, vcB, ↓vcD, vcE, ↓reduceIte, Nat.reduceEqDiff, Nat.reduceAdd, Nat.reduceMul, Nat.reduceLeDiff, Int.reduceLE, Int.reduceLT, Int.reduceEq, Int.reduceToNat, Int.reduceAdd, Int.reduceSub, Int.reduceMul, Int.reduceNeg, reduceCtorEq, Option.bind_some, Option.map_some, List.length_cons, List.length_nil, vcM, List.getElem?_toArray, List.getElem?_cons_zero, List.getElem?_cons_succ])
    (refine W_at c18_ok ?_; refine ⟨_, rfl, ?_⟩; simp (disch := first | omega | assumption | rfl | (simp only [vcS] <;> omega) | fail) only [↓ptV_l, ↓vcA, vcB, ↓vcD, vcE, ↓reduceIte, Nat.reduceEqDiff, Nat.reduceAdd, Nat.reduceMul, Nat.reduceLeDiff, Int.reduceLE, Int.reduceLT, Int.reduceEq, Int.reduceToNat, Int.reduceAdd, Int.reduceSub, Int.reduceMul, Int.reduceNeg, reduceCtorEq, Option.bind_some, Option.map_some, List.length_cons, List.length_nil, vcM, List.getElem?_toArray, List.getElem?_cons_zero, List.getElem?_cons_succ, d3, r4, z4, d6, o4])
    have hfl : flat (txC t vi vo) := by
      have a1 := ListN.one hP.ins
      have a2 := ListN.one hP.outs
      intro y hy; simp only [txC, List.mem_toArray, List.mem_cons, List.not_mem_nil, or_false] at hy; rcases hy with rfl | rfl | rfl | rfl <;> first | rfl | assumption
    refine ⟨hfl, ?_⟩
    have hk : Keep (fun g => g = p6) wj (wj.putN p6 0 (txC t vi vo)) := (Keep.refl _ wj).putN _ fun _ => rfl
    have d9 : (wj.putN p6 0 (txC t vi vo)).heap[p6]? = some (.cells (txC t vi vo) 26 (0, 0)) := by
      rw [heap_putN_eq d6, splice_all (by rw [hcc, txC_sz])]
    obtain ⟨li', f1, f2, f3, f4, f5, f6⟩ := hP.fin hk
    have l6 := hP.l6
    have hE9 := hP.ext.trans hk fun g hg e => by omega
    (refine W_at c18_ok ?_; refine ⟨_, rfl, ?_⟩; simp (disch := first | omega | assumption | rfl | (simp only [vcS] <;> omega) | fail) only [↓ptV_l, ↓vcA, vcB, ↓vcD, vcE, ↓reduceIte, Nat.reduceEqDiff, Nat.reduceAdd, Nat.reduceMul, Nat.reduceLeDiff, Int.reduceLE, Int.reduceLT, Int.reduceEq, Int.reduceToNat, Int.reduceAdd, Int.reduceSub, Int.reduceMul, Int.reduceNeg, reduceCtorEq, Option.bind_some, Option.map_some, List.length_cons, List.length_nil, vcM, List.getElem?_toArray, List.getElem?_cons_zero, List.getElem?_cons_succ, d9, r4])
    refine ⟨_, rfl, ⟨t.ver, li', lo, t.lock⟩, vi, vo, rfl, ⟨f2, f3⟩, ⟨hok.ver, fun x hx => (f4 x hx).1, hP.okO, hok.lock⟩, ⟨by show li'.length * 96 ≤ _; omega, by show lo.length * 32 ≤ _; omega, fun x hx => (f4 x hx).2, f5⟩, ⟨by show li'.length ≤ n; omega, hlo, f6 by' hls, fun y hy => ?_⟩, hE9⟩
    obtain ⟨j, hj, rfl⟩ := List.getElem_of_mem hy
    have hj' : j < lo.length := hj
    exact hd j hj' (by omega)
  | succ k ih =>
    intro i wj vo lo tl hi hlo hP hd
    have hi0 : i < lo.length := by omega
    have hil : ((i : Int) < (lo.length : Nat)) := by omega
    have c3 : 0 ≤ (i : Int) ∧ (i : Int) < (lo.length : Nat) := by omega
    have d3 := hP.c3
    have hlen := ListN.len hP.outs
    obtain ⟨g, o, cap, c, hov, hrd, ⟨sv, rfl, hsv⟩, hm, cur, hg⟩ := ListN.at hP.outs hi0
    have q1 := rdO_cell hrd (j := 1) (by omega)
    have q1' : (oC lo[i] sv)[1]? = some sv := rfl
    rw [q1'] at q1
    have hsl := hsv.1.len
    have wi : IntKind.i64.wrap ((i : Int) + 1) = ((i + 1 : Nat) : Int) := wrap_i64 (by omega) (by omega)
    (refine W_at c18_ok ?_; refine ⟨_, rfl, ?_⟩; simp (disch := first | omega | assumption | rfl | (simp only [vcS] <;> omega) | fail) only [↓ptV_l, ↓vcA, vcB, ↓vcD, vcE, ↓reduceIte, Nat.reduceEqDiff, Nat.reduceAdd, Nat.reduceMul, Nat.reduceLeDiff, Int.reduceLE, Int.reduceLT, Int.reduceEq, Int.reduceToNat, Int.reduceAdd, Int.reduceSub, Int.reduceMul, Int.reduceNeg, reduceCtorEq, Option.bind_some, Option.map_some, List.length_cons, List.length_nil, vcM, List.getElem?_toArray, List.getElem?_cons_zero, List.getElem?_cons_succ, d3, txC_2, hlen, hil])
    (refine W_at c18_ok ?_; refine ⟨_, rfl, ?_⟩; simp (disch := first | omega | assumption | rfl | (simp only [vcS] <;> omega) | fail) only [↓ptV_l, ↓vcA, vcB, ↓vcD, vcE, ↓reduceIte, Nat.reduceEqDiff, Nat.reduceAdd, Nat.reduceMul, Nat.reduceLeDiff, Int.reduceLE, Int.reduceLT, Int.reduceEq, Int.reduceToNat, Int.reduceAdd, Int.reduceSub, Int.reduceMul, Int.reduceNeg, reduceCtorEq, Option.bind_some, Option.map_some, List.length_cons, List.length_nil, vcM, List.getElem?_toArray, List.getElem?_cons_zero, List.getElem?_cons_succ])
    (refine W_at c18_ok ?_; refine ⟨_, rfl, ?_⟩; simp (disch := first | omega | assumption | rfl | (simp only [vcS] <;> omega) | fail) only [↓ptV_l, ↓vcA, vcB, ↓vcD, vcE, ↓reduceIte, Nat.reduceEqDiff, Nat.reduceAdd, Nat.reduceMul, Nat.reduceLeDiff, Int.reduceLE, Int.reduceLT, Int.reduceEq, Int.reduceToNat, Int.reduceAdd, Int.reduceSub, Int.reduceMul, Int.reduceNeg, reduceCtorEq, Option.bind_some, Option.map_some, List.length_cons, List.length_nil, vcM, List.getElem?_toArray, List.getElem?_cons_zero, List.getElem?_cons_succ, d3, txC_2, hov, c3, Int.toNat_natCast, q1, hsl])
    by_cases hg4 : (by' : Int) < (lo[i].script.length : Nat)
    · obtain ⟨qs, cs, rfl, hcs⟩ := hsv.1.is
      have k1 : (0 : Int) ≤ (by' : Nat) ∧ ((by' : Nat) : Int) ≤ (cs : Nat) := by omega
      have hEd : Ext wj wj.drew := (Keep.refl _ wj).drew
      have hPd := hP.keep hEd
      have hcut := (hsv.keepT hEd fun _ h => h.elim).cut (k := by') (by omega)
      have hol := hP.okO _ (List.getElem_mem hi0)
      obtain ⟨hw, hP2⟩ := hPd.setO (j := 1) hov hi0 (by decide) (.slice qs by' cs) ⟨lo[i].val, lo[i].script.take by'⟩ ⟨hol.val, byt_take hol.script _⟩ (fun w' c hk hS hO => by
        obtain ⟨sv, rfl, hsv2⟩ := hO
        refine ⟨.slice qs by' cs, rfl, hcut.keepT hk fun g' hg' c => by subst hg'; exact hS c⟩)
      (refine W_at c18_ok ?_; refine ⟨_, rfl, ?_⟩; simp (disch := first | omega | assumption | rfl | (simp only [vcS] <;> omega) | fail) only [↓ptV_l, ↓vcA, vcB, ↓vcD, vcE, ↓reduceIte, Nat.reduceEqDiff, Nat.reduceAdd, Nat.reduceMul, Nat.reduceLeDiff, Int.reduceLE, Int.reduceLT, Int.reduceEq, Int.reduceToNat, Int.reduceAdd, Int.reduceSub, Int.reduceMul, Int.reduceNeg, reduceCtorEq, Option.bind_some, Option.map_some, List.length_cons, List.length_nil, vcM, List.getElem?_toArray, List.getElem?_cons_zero, List.getElem?_cons_succ, hg4])
      (refine W_at c18_ok ?_; refine ⟨_, rfl, ?_⟩; simp (disch := first | omega | assumption | rfl | (simp only [vcS] <;> omega) | fail) only [↓ptV_l, ↓vcA, vcB, ↓vcD, vcE, ↓reduceIte, Nat.reduceEqDiff, Nat.reduceAdd, Nat.reduceMul, Nat.reduceLeDiff, Int.reduceLE, Int.reduceLT, Int.reduceEq, Int.reduceToNat, Int.reduceAdd, Int.reduceSub, Int.reduceMul, Int.reduceNeg, reduceCtorEq, Option.bind_some, Option.map_some, List.length_cons, List.length_nil, vcM, List.getElem?_toArray, List.getElem?_cons_zero, List.getElem?_cons_succ, d3, txC_2, hov, c3, Int.toNat_natCast, q1, k1, advA_0, Nat.sub_zero])
      refine ⟨hw, ?_⟩
      (refine W_at c18_ok ?_; refine ⟨_, rfl, ?_⟩; simp (disch := first | omega | assumption | rfl | (simp only [vcS] <;> omega) | fail) only [↓ptV_l, ↓vcA, vcB, ↓vcD, vcE, ↓reduceIte, Nat.reduceEqDiff, Nat.reduceAdd, Nat.reduceMul, Nat.reduceLeDiff, Int.reduceLE, Int.reduceLT, Int.reduceEq, Int.reduceToNat, Int.reduceAdd, Int.reduceSub, Int.reduceMul, Int.reduceNeg, reduceCtorEq, Option.bind_some, Option.map_some, List.length_cons, List.length_nil, vcM, List.getElem?_toArray, List.getElem?_cons_zero, List.getElem?_cons_succ, wi])
      (refine W_at c18_ok ?_; refine ⟨_, rfl, ?_⟩; simp (disch := first | omega | assumption | rfl | (simp only [vcS] <;> omega) | fail) only [↓ptV_l, ↓vcA, vcB, ↓vcD, vcE, ↓reduceIte, Nat.reduceEqDiff, Nat.reduceAdd, Nat.reduceMul, Nat.reduceLeDiff, Int.reduceLE, Int.reduceLT, Int.reduceEq, Int.reduceToNat, Int.reduceAdd, Int.reduceSub, Int.reduceMul, Int.reduceNeg, reduceCtorEq, Option.bind_some, Option.map_some, List.length_cons, List.length_nil, vcM, List.getElem?_toArray, List.getElem?_cons_zero, List.getElem?_cons_succ])
      refine ih (i + 1) _ vo _ _ (by rw [List.length_set]; omega) (by rw [List.length_set]; exact hlo) hP2 fun j hj hji => ?_
      rw [List.length_set] at hj
      by_cases hjj : i = j
      · subst hjj
        rw [List.getElem_set_self]
        show (lo[i].script.take by').length ≤ by'
        rw [List.length_take]; omega
      · rw [List.getElem_set_ne hjj]
        exact hd j hj (by omega)
    · (refine W_at c18_ok ?_; refine ⟨_, rfl, ?_⟩; simp (disch := first | omega | assumption | rfl | (simp only [vcS] <;> omega) | fail) only [↓ptV_l, ↓vcA, vcB, ↓vcD, vcE, ↓reduceIte, Nat.reduceEqDiff, Nat.reduceAdd, Nat.reduceMul, Nat.reduceLeDiff, Int.reduceLE, Int.reduceLT, Int.reduceEq, Int.reduceToNat, Int.reduceAdd, Int.reduceSub, Int.reduceMul, Int.reduceNeg, reduceCtorEq, Option.bind_some, Option.map_some, List.length_cons, List.length_nil, vcM, List.getElem?_toArray, List.getElem?_cons_zero, List.getElem?_cons_succ, hg4])
      (refine W_at c18_ok ?_; refine ⟨_, rfl, ?_⟩; simp (disch := first | omega | assumption | rfl | (simp only [vcS] <;> omega) | fail) only [↓ptV_l, ↓vcA, vcB, ↓vcD, vcE, ↓reduceIte, Nat.reduceEqDiff, Nat.reduceAdd, Nat.reduceMul, Nat.reduceLeDiff, Int.reduceLE, Int.reduceLT, Int.reduceEq, Int.reduceToNat, Int.reduceAdd, Int.reduceSub, Int.reduceMul, Int.reduceNeg, reduceCtorEq, Option.bind_some, Option.map_some, List.length_cons, List.length_nil, vcM, List.getElem?_toArray, List.getElem?_cons_zero, List.getElem?_cons_succ, wi])
      (refine W_at c18_ok ?_; refine ⟨_, rfl, ?_⟩; simp (disch := first | omega | assumption | rfl | (simp only [vcS] <;> omega) | fail) only [↓ptV_l, ↓vcA, vcB, ↓vcD, vcE, ↓reduceIte, Nat.reduceEqDiff, Nat.reduceAdd, Nat.reduceMul, Nat.reduceLeDiff, Int.reduceLE, Int.reduceLT, Int.reduceEq, Int.reduceToNat, Int.reduceAdd, Int.reduceSub, Int.reduceMul, Int.reduceNeg, reduceCtorEq, Option.bind_some, Option.map_some, List.length_cons, List.length_nil, vcM, List.getElem?_toArray, List.getElem?_cons_zero, List.getElem?_cons_succ])
      refine ih (i + 1) wj vo lo _ (by omega) hlo hP fun j hj hji => ?_
      by_cases hjj : j = i
      · subst hjj; omega
      · exact hd j hj (by omega)
theorem GR.len {m n : Nat} {w : World} {v : Value} (h : GR m w v n) : lenR v = some (.int .i64 (n : Nat)) := by
  rcases h with ⟨rfl, rfl⟩ | ⟨g, o, cap, cs, rfl, _⟩ <;> rfl
theorem GR.mx {m n : Nat} {w : World} {v : Value} (h : GR m w v n) : n ≤ maxLen := by
  rcases h with ⟨rfl, rfl⟩ | ⟨g, o, cap, cs, rfl, _, _, h, _⟩
  · exact Nat.zero_le _
  · exact h
set_option maxHeartbeats 3200000 in
theorem few_wits (w : World) (p3 p6 : Nat) (t : TxV) (n by' : Nat) (hb : by' ≤ 100000) (vi vo : Value) (li : List TxI) (lo : List TxO) (i : Nat) (hi0 : i < li.length) (hln : li.length ≤ 140737488355328) (g o cap : Nat) (hvi : vi = .slice (some ⟨g, o, none⟩) li.length cap) (x : TxI) (hxl : x.prev.length = 32) (sv wv : Value) (nw : Nat)
    (hdone : ∀ wj tl, FwS w wj p3 p6 t vi vo li lo → W Try.prog (FewQ w n by') 18 12 ((1, .int .i64 (n : Nat)) :: (2, .int .i64 (by' : Nat)) :: (3, .pointer (some ⟨p3, 0, none⟩)) :: (6, .pointer (some ⟨p6, 0, none⟩)) :: (7, .int .i64 (i : Nat)) :: tl) wj) :
    ∀ (k j : Nat) (wj : World) (tl : Env), k + j = nw → FwS w wj p3 p6 t vi vo li lo → rdO wj.heap[g]? (o + i * 36) 36 = some (iC x sv wv) → GR w.heap.size wj wv nw →
      W Try.prog (FewQ w n by') 18 19 ((1, .int .i64 (n : Nat)) :: (2, .int .i64 (by' : Nat)) :: (3, .pointer (some ⟨p3, 0, none⟩)) :: (6, .pointer (some ⟨p6, 0, none⟩)) :: (7, .int .i64 (i : Nat)) :: (8, .int .i64 (j : Nat)) :: tl) wj := by
  intro k
  have c3 : 0 ≤ (i : Int) ∧ (i : Int) < (li.length : Nat) := by omega
  induction k with
  | zero =>
    intro j wj tl hj hP hrd hG
    have hil : ¬ ((j : Int) < (nw : Nat)) := by omega
    have d3 := hP.c3
    have hlen := hG.len
    have q := rdO_cell hrd (j := 35) (by omega)
    rw [iC_35 hxl] at q
    (refine W_at c18_ok ?_; refine ⟨_, rfl, ?_⟩; simp (disch := first | omega | assumption | rfl | (simp only [vcS] <;> omega) | fail) only [↓ptV_l, ↓vcA, vcB, ↓vcD, vcE, ↓reduceIte, Nat.reduceEqDiff, Nat.reduceAdd, Nat.reduceMul, Nat.reduceLeDiff, Int.reduceLE, Int.reduceLT, Int.reduceEq, Int.reduceToNat, Int.reduceAdd, Int.reduceSub, Int.reduceMul, Int.reduceNeg, reduceCtorEq, Option.bind_some, Option.map_some, List.length_cons, List.length_nil, vcM, List.getElem?_toArray, List.getElem?_cons_zero, List.getElem?_cons_succ, d3, txC_1, hvi, c3, Int.toNat_natCast, q, hlen, hil])
    (refine W_at c18_ok ?_; refine ⟨_, rfl, ?_⟩; simp (disch := first | omega | assumption | rfl | (simp only [vcS] <;> omega) | fail) only [↓ptV_l, ↓vcA, vcB, ↓vcD, vcE, ↓reduceIte, Nat.reduceEqDiff, Nat.reduceAdd, Nat.reduceMul, Nat.reduceLeDiff, Int.reduceLE, Int.reduceLT, Int.reduceEq, Int.reduceToNat, Int.reduceAdd, Int.reduceSub, Int.reduceMul, Int.reduceNeg, reduceCtorEq, Option.bind_some, Option.map_some, List.length_cons, List.length_nil, vcM, List.getElem?_toArray, List.getElem?_cons_zero, List.getElem?_cons_succ])
    exact hdone wj _ hP
  | succ k ih =>
    intro j wj tl hj hP hrd hG
    have hil : ((j : Int) < (nw : Nat)) := by omega
    have d3 := hP.c3
    have hlen := hG.len
    have q := rdO_cell hrd (j := 35) (by omega)
    rw [iC_35 hxl] at q
    have hmx := hG.mx
    have hG0 := hG
    rcases hG with ⟨rfl, rfl⟩ | ⟨g1, o1, cap1, cs1, rfl, a1, a2, a3, a4, a5, a6⟩
    · omega
    obtain ⟨y, b, hy, hyb⟩ := a6 j (by omega)
    have hcy : cellO wj.heap[g1]? (o1 + j) = some y := by rw [a4, cellO_some]; exact hy
    have c4 : 0 ≤ (j : Int) ∧ (j : Int) < (nw : Nat) := by omega
    have hyl := hyb.1.len
    have e : maxLen = 9223372036854775807 := rfl
    have wi : IntKind.i64.wrap ((j : Int) + 1) = ((j + 1 : Nat) : Int) := wrap_i64 (by omega) (by omega)
    (refine W_at c18_ok ?_; refine ⟨_, rfl, ?_⟩; simp (disch := first | omega | assumption | rfl | (simp only [vcS] <;> omega) | fail) only [↓ptV_l, ↓vcA, vcB, ↓vcD, vcE, ↓reduceIte, Nat.reduceEqDiff, Nat.reduceAdd, Nat.reduceMul, Nat.reduceLeDiff, Int.reduceLE, Int.reduceLT, Int.reduceEq, Int.reduceToNat, Int.reduceAdd, Int.reduceSub, Int.reduceMul, Int.reduceNeg, reduceCtorEq, Option.bind_some, Option.map_some, List.length_cons, List.length_nil, vcM, List.getElem?_toArray, List.getElem?_cons_zero, List.getElem?_cons_succ, d3, txC_1, hvi, c3, Int.toNat_natCast, q, hlen, hil])
    (refine W_at c18_ok ?_; refine ⟨_, rfl, ?_⟩; simp (disch := first | omega | assumption | rfl | (simp only [vcS] <;> omega) | fail) only [↓ptV_l, ↓vcA, vcB, ↓vcD, vcE, ↓reduceIte, Nat.reduceEqDiff, Nat.reduceAdd, Nat.reduceMul, Nat.reduceLeDiff, Int.reduceLE, Int.reduceLT, Int.reduceEq, Int.reduceToNat, Int.reduceAdd, Int.reduceSub, Int.reduceMul, Int.reduceNeg, reduceCtorEq, Option.bind_some, Option.map_some, List.length_cons, List.length_nil, vcM, List.getElem?_toArray, List.getElem?_cons_zero, List.getElem?_cons_succ])
    (refine W_at c18_ok ?_; refine ⟨_, rfl, ?_⟩; simp (disch := first | omega | assumption | rfl | (simp only [vcS] <;> omega) | fail) only [↓ptV_l, ↓vcA, vcB, ↓vcD, vcE, ↓reduceIte, Nat.reduceEqDiff, Nat.reduceAdd, Nat.reduceMul, Nat.reduceLeDiff, Int.reduceLE, Int.reduceLT, Int.reduceEq, Int.reduceToNat, Int.reduceAdd, Int.reduceSub, Int.reduceMul, Int.reduceNeg, reduceCtorEq, Option.bind_some, Option.map_some, List.length_cons, List.length_nil, vcM, List.getElem?_toArray, List.getElem?_cons_zero, List.getElem?_cons_succ, d3, txC_1, hvi, c3, c4, Int.toNat_natCast, Nat.mul_one, q, hcy, hyl])
    by_cases hg4 : (by' : Int) < (b.length : Nat)
    · obtain ⟨qs, cs, rfl, hcs⟩ := hyb.1.is
      have k1 : (0 : Int) ≤ (by' : Nat) ∧ ((by' : Nat) : Int) ≤ (cs : Nat) := by omega
      have hEd : Ext wj wj.drew := (Keep.refl _ wj).drew
      have hPd := hP.keep hEd
      have hcut := (hyb.keepT hEd fun _ h => h.elim).cut (k := by') (by omega)
      have a4d := hEd.at a4 (fun h => h)
      obtain ⟨hw, hP2⟩ := hPd.setR a1 a4d (idx := o1 + j) (by omega) hcut
      have hk : Keep (fun y => y = g1) wj.drew (wj.drew.setCell ⟨g1, o1 + j, none⟩ (.slice qs by' cs)) := (Keep.refl _ _).setCell _ fun _ => rfl
      have hG2 := (hG0.keepT hEd fun _ h => h.elim).set (idx := o1 + j) a4d hcut
      have hrd2 : rdO (wj.drew.setCell ⟨g1, o1 + j, none⟩ (.slice qs by' cs)).heap[g]? (o + i * 36) 36 = some (iC x sv (.slice (some ⟨g1, o1, none⟩) nw cap1)) := by
        obtain ⟨_, cur, hcur⟩ := ListN.blkT hPd.ins (g := g) (by rw [hvi]; rfl)
        have hne : g ≠ g1 := fun e => by subst e; rw [a4d] at hcur; injection hcur with e; injection e with _ e; exact absurd e (by decide)
        have h1 := hEd.block g (by rw [← Nat.not_le]; intro hh; rw [Array.getElem?_eq_none hh] at hrd; cases hrd) (fun h => h)
        rw [hk.block g (lt_of_heap hcur) hne, h1]
        exact hrd
      (refine W_at c18_ok ?_; refine ⟨_, rfl, ?_⟩; simp (disch := first | omega | assumption | rfl | (simp only [vcS] <;> omega) | fail) only [↓ptV_l, ↓vcA, vcB, ↓vcD, vcE, ↓reduceIte, Nat.reduceEqDiff, Nat.reduceAdd, Nat.reduceMul, Nat.reduceLeDiff, Int.reduceLE, Int.reduceLT, Int.reduceEq, Int.reduceToNat, Int.reduceAdd, Int.reduceSub, Int.reduceMul, Int.reduceNeg, reduceCtorEq, Option.bind_some, Option.map_some, List.length_cons, List.length_nil, vcM, List.getElem?_toArray, List.getElem?_cons_zero, List.getElem?_cons_succ, hg4])
      (refine W_at c18_ok ?_; refine ⟨_, rfl, ?_⟩; simp (disch := first | omega | assumption | rfl | (simp only [vcS] <;> omega) | fail) only [↓ptV_l, ↓vcA, vcB, ↓vcD, vcE, ↓reduceIte, Nat.reduceEqDiff, Nat.reduceAdd, Nat.reduceMul, Nat.reduceLeDiff, Int.reduceLE, Int.reduceLT, Int.reduceEq, Int.reduceToNat, Int.reduceAdd, Int.reduceSub, Int.reduceMul, Int.reduceNeg, reduceCtorEq, Option.bind_some, Option.map_some, List.length_cons, List.length_nil, vcM, List.getElem?_toArray, List.getElem?_cons_zero, List.getElem?_cons_succ, d3, txC_1, hvi, c3, c4, Int.toNat_natCast, Nat.mul_one, q, hcy, k1, advA_0, Nat.sub_zero])
      refine ⟨hw, ?_⟩
      (refine W_at c18_ok ?_; refine ⟨_, rfl, ?_⟩; simp (disch := first | omega | assumption | rfl | (simp only [vcS] <;> omega) | fail) only [↓ptV_l, ↓vcA, vcB, ↓vcD, vcE, ↓reduceIte, Nat.reduceEqDiff, Nat.reduceAdd, Nat.reduceMul, Nat.reduceLeDiff, Int.reduceLE, Int.reduceLT, Int.reduceEq, Int.reduceToNat, Int.reduceAdd, Int.reduceSub, Int.reduceMul, Int.reduceNeg, reduceCtorEq, Option.bind_some, Option.map_some, List.length_cons, List.length_nil, vcM, List.getElem?_toArray, List.getElem?_cons_zero, List.getElem?_cons_succ, wi])
      (refine W_at c18_ok ?_; refine ⟨_, rfl, ?_⟩; simp (disch := first | omega | assumption | rfl | (simp only [vcS] <;> omega) | fail) only [↓ptV_l, ↓vcA, vcB, ↓vcD, vcE, ↓reduceIte, Nat.reduceEqDiff, Nat.reduceAdd, Nat.reduceMul, Nat.reduceLeDiff, Int.reduceLE, Int.reduceLT, Int.reduceEq, Int.reduceToNat, Int.reduceAdd, Int.reduceSub, Int.reduceMul, Int.reduceNeg, reduceCtorEq, Option.bind_some, Option.map_some, List.length_cons, List.length_nil, vcM, List.getElem?_toArray, List.getElem?_cons_zero, List.getElem?_cons_succ])
      exact ih (j + 1) _ _ (by omega) hP2 hrd2 hG2
    · (refine W_at c18_ok ?_; refine ⟨_, rfl, ?_⟩; simp (disch := first | omega | assumption | rfl | (simp only [vcS] <;> omega) | fail) only [↓ptV_l, ↓vcA, vcB, ↓vcD, vcE, ↓reduceIte, Nat.reduceEqDiff, Nat.reduceAdd, Nat.reduceMul, Nat.reduceLeDiff, Int.reduceLE, Int.reduceLT, Int.reduceEq, Int.reduceToNat, Int.reduceAdd, Int.reduceSub, Int.reduceMul, Int.reduceNeg, reduceCtorEq, Option.bind_some, Option.map_some, List.length_cons, List.length_nil, vcM, List.getElem?_toArray, List.getElem?_cons_zero, List.getElem?_cons_succ, hg4])
      (refine W_at c18_ok ?_; refine ⟨_, rfl, ?_⟩; simp (disch := first | omega | assumption | rfl | (simp only [vcS] <;> omega) | fail) only [↓ptV_l, ↓vcA, vcB, ↓vcD, vcE, ↓reduceIte, Nat.reduceEqDiff, Nat.reduceAdd, Nat.reduceMul, Nat.reduceLeDiff, Int.reduceLE, Int.reduceLT, Int.reduceEq, Int.reduceToNat, Int.reduceAdd, Int.reduceSub, Int.reduceMul, Int.reduceNeg, reduceCtorEq, Option.bind_some, Option.map_some, List.length_cons, List.length_nil, vcM, List.getElem?_toArray, List.getElem?_cons_zero, List.getElem?_cons_succ, wi])
      (refine W_at c18_ok ?_; refine ⟨_, rfl, ?_⟩; simp (disch := first | omega | assumption | rfl | (simp only [vcS] <;> omega) | fail) only [↓ptV_l, ↓vcA, vcB, ↓vcD, vcE, ↓reduceIte, Nat.reduceEqDiff, Nat.reduceAdd, Nat.reduceMul, Nat.reduceLeDiff, Int.reduceLE, Int.reduceLT, Int.reduceEq, Int.reduceToNat, Int.reduceAdd, Int.reduceSub, Int.reduceMul, Int.reduceNeg, reduceCtorEq, Option.bind_some, Option.map_some, List.length_cons, List.length_nil, vcM, List.getElem?_toArray, List.getElem?_cons_zero, List.getElem?_cons_succ])
      exact ih (j + 1) wj _ (by omega) hP hrd hG0
set_option maxHeartbeats 3200000 in
theorem few_ins (w : World) (p3 p6 : Nat) (t : TxV) (n by' : Nat) (hok : t.Ok) (hn : n ≤ 100) (hb : by' ≤ 100000) (vi vo : Value) (lo : List TxO) (hlo : lo.length ≤ n) :
    ∀ (k i : Nat) (wj : World) (li : List TxI) (tl : Env), k + i = li.length → li.length ≤ n → FwS w wj p3 p6 t vi vo li lo → (∀ j (h : j < li.length), j < i → li[j].script.length ≤ by') →
      W Try.prog (FewQ w n by') 18 28 ((1, .int .i64 (n : Nat)) :: (2, .int .i64 (by' : Nat)) :: (3, .pointer (some ⟨p3, 0, none⟩)) :: (6, .pointer (some ⟨p6, 0, none⟩)) :: (7, .int .i64 (i : Nat)) :: tl) wj := by
  intro k
  induction k with
  | zero =>
    intro i wj li tl hi hli hP hd
    have hil : ¬ ((i : Int) < (li.length : Nat)) := by omega
    have d3 := hP.c3
    have hlen := ListN.len hP.ins
    (refine W_at c18_ok ?_; refine ⟨_, rfl, ?_⟩; simp (disch := first | omega | assumption | rfl | (simp only [vcS] <;> omega) | fail) only [↓ptV_l, ↓vcA, vcB, ↓vcD, vcE, ↓reduceIte, Nat.reduceEqDiff, Nat.reduceAdd, Nat.reduceMul, Nat.reduceLeDiff, Int.reduceLE, Int.reduceLT, Int.reduceEq, Int.reduceToNat, Int.reduceAdd, Int.reduceSub, Int.reduceMul, Int.reduceNeg, reduceCtorEq, Option.bind_some, Option.map_some, List.length_cons, List.length_nil, vcM, List.getElem?_toArray, List.getElem?_cons_zero, List.getElem?_cons_succ, d3, txC_1, hlen, hil])
    (refine W_at c18_ok ?_; refine ⟨_, rfl, ?_⟩; simp (disch := first | omega | assumption | rfl | (simp only [vcS] <;> omega) | fail) only [↓ptV_l, ↓vcA, vcB, ↓vcD, vcE, ↓reduceIte, Nat.reduceEqDiff, Nat.reduceAdd, Nat.reduceMul, Nat.reduceLeDiff, Int.reduceLE, Int.reduceLT, Int.reduceEq, Int.reduceToNat, Int.reduceAdd, Int.reduceSub, Int.reduceMul, Int.reduceNeg, reduceCtorEq, Option.bind_some, Option.map_some, List.length_cons, List.length_nil, vcM, List.getElem?_toArray, List.getElem?_cons_zero, List.getElem?_cons_succ])
    (refine W_at c18_ok ?_; refine ⟨_, rfl, ?_⟩; simp (disch := first | omega | assumption | rfl | (simp only [vcS] <;> omega) | fail) only [↓ptV_l, ↓vcA, vcB, ↓vcD, vcE, ↓reduceIte, Nat.reduceEqDiff, Nat.reduceAdd, Nat.reduceMul, Nat.reduceLeDiff, Int.reduceLE, Int.reduceLT, Int.reduceEq, Int.reduceToNat, Int.reduceAdd, Int.reduceSub, Int.reduceMul, Int.reduceNeg, reduceCtorEq, Option.bind_some, Option.map_some, List.length_cons, List.length_nil, vcM, List.getElem?_toArray, List.getElem?_cons_zero, List.getElem?_cons_succ])
    refine few_outs w p3 p6 t n by' hok hn hb vi li hli (fun x hx => ?_) lo.length 0 wj vo lo _ (by omega) hlo hP fun j _ h => by omega
    obtain ⟨j, hj, rfl⟩ := List.getElem_of_mem hx
    exact hd j hj (by omega)
  | succ k ih =>
    intro i wj0 li0 tl0 hi hli hP hd
    have hi0 : i < li0.length := by omega
    have hil : ((i : Int) < (li0.length : Nat)) := by omega
    have c3 : 0 ≤ (i : Int) ∧ (i : Int) < (li0.length : Nat) := by omega
    have wi : IntKind.i64.wrap ((i : Int) + 1) = ((i + 1 : Nat) : Int) := wrap_i64 (by omega) (by omega)
    have items : ∀ wj li tl, li.length = li0.length → FwS w wj p3 p6 t vi vo li lo → (∀ j (h : j < li.length), j < i + 1 → li[j].script.length ≤ by') →
        W Try.prog (FewQ w n by') 18 20 ((1, .int .i64 (n : Nat)) :: (2, .int .i64 (by' : Nat)) :: (3, .pointer (some ⟨p3, 0, none⟩)) :: (6, .pointer (some ⟨p6, 0, none⟩)) :: (7, .int .i64 (i : Nat)) :: tl) wj := by
      intro wj li tl hl hP hd
      obtain ⟨g, o, cap, c, hvi, hrd, ⟨sv, wv, nw, rfl, hsv, hG, hnw⟩, hm, cur, hg⟩ := ListN.at hP.ins (i := i) (by omega)
      have hoi := hP.okI _ (List.getElem_mem (show i < li.length by omega))
      (refine W_at c18_ok ?_; refine ⟨_, rfl, ?_⟩; simp (disch := first | omega | assumption | rfl | (simp only [vcS] <;> omega) | fail) only [↓ptV_l, ↓vcA, vcB, ↓vcD, vcE, ↓reduceIte, Nat.reduceEqDiff, Nat.reduceAdd, Nat.reduceMul, Nat.reduceLeDiff, Int.reduceLE, Int.reduceLT, Int.reduceEq, Int.reduceToNat, Int.reduceAdd, Int.reduceSub, Int.reduceMul, Int.reduceNeg, reduceCtorEq, Option.bind_some, Option.map_some, List.length_cons, List.length_nil, vcM, List.getElem?_toArray, List.getElem?_cons_zero, List.getElem?_cons_succ])
      refine few_wits w p3 p6 t n by' hb vi vo li lo i (by omega) (by omega) g o cap hvi li[i] hoi.len sv wv nw ?_ nw 0 wj _ (by omega) hP hrd hG
      intro w9 tl9 hP9
      (refine W_at c18_ok ?_; refine ⟨_, rfl, ?_⟩; simp (disch := first | omega | assumption | rfl | (simp only [vcS] <;> omega) | fail) only [↓ptV_l, ↓vcA, vcB, ↓vcD, vcE, ↓reduceIte, Nat.reduceEqDiff, Nat.reduceAdd, Nat.reduceMul, Nat.reduceLeDiff, Int.reduceLE, Int.reduceLT, Int.reduceEq, Int.reduceToNat, Int.reduceAdd, Int.reduceSub, Int.reduceMul, Int.reduceNeg, reduceCtorEq, Option.bind_some, Option.map_some, List.length_cons, List.length_nil, vcM, List.getElem?_toArray, List.getElem?_cons_zero, List.getElem?_cons_succ, wi])
      (refine W_at c18_ok ?_; refine ⟨_, rfl, ?_⟩; simp (disch := first | omega | assumption | rfl | (simp only [vcS] <;> omega) | fail) only [↓ptV_l, ↓vcA, vcB, ↓vcD, vcE, ↓reduceIte, Nat.reduceEqDiff, Nat.reduceAdd, Nat.reduceMul, Nat.reduceLeDiff, Int.reduceLE, Int.reduceLT, Int.reduceEq, Int.reduceToNat, Int.reduceAdd, Int.reduceSub, Int.reduceMul, Int.reduceNeg, reduceCtorEq, Option.bind_some, Option.map_some, List.length_cons, List.length_nil, vcM, List.getElem?_toArray, List.getElem?_cons_zero, List.getElem?_cons_succ])
      exact ih (i + 1) w9 li _ (by omega) (by omega) hP9 hd
    have wits : ∀ wj li tl, li.length = li0.length → FwS w wj p3 p6 t vi vo li lo → (∀ j (h : j < li.length), j < i + 1 → li[j].script.length ≤ by') →
        W Try.prog (FewQ w n by') 18 23 ((1, .int .i64 (n : Nat)) :: (2, .int .i64 (by' : Nat)) :: (3, .pointer (some ⟨p3, 0, none⟩)) :: (6, .pointer (some ⟨p6, 0, none⟩)) :: (7, .int .i64 (i : Nat)) :: tl) wj := by
      intro wj li tl hl hP hd
      have hil2 : i < li.length := by omega
      obtain ⟨g, o, cap, c, hvi, hrd, ⟨sv, wv, nw, rfl, hsv, hG, hnw⟩, hm, cur, hg⟩ := ListN.at hP.ins hil2
      have hoi := hP.okI _ (List.getElem_mem hil2)
      have d3 := hP.c3
      have q := rdO_cell hrd (j := 35) (by omega)
      rw [iC_35 hoi.len] at q
      have hlen := hG.len
      have c5 : 0 ≤ (i : Int) ∧ (i : Int) < (li.length : Nat) := by omega
      (refine W_at c18_ok ?_; refine ⟨_, rfl, ?_⟩; simp (disch := first | omega | assumption | rfl | (simp only [vcS] <;> omega) | fail) only [↓ptV_l, ↓vcA, vcB, ↓vcD, vcE, ↓reduceIte, Nat.reduceEqDiff, Nat.reduceAdd, Nat.reduceMul, Nat.reduceLeDiff, Int.reduceLE, Int.reduceLT, Int.reduceEq, Int.reduceToNat, Int.reduceAdd, Int.reduceSub, Int.reduceMul, Int.reduceNeg, reduceCtorEq, Option.bind_some, Option.map_some, List.length_cons, List.length_nil, vcM, List.getElem?_toArray, List.getElem?_cons_zero, List.getElem?_cons_succ, d3, txC_1, hvi, c5, Int.toNat_natCast, q, hlen])
      by_cases hg4 : (n : Int) < (nw : Nat)
      · have hEd : Ext wj wj.drew := (Keep.refl _ wj).drew
        have hPd := hP.keep hEd
        obtain ⟨qs, cs, rfl, hcs⟩ : ∃ q c, wv = .slice q nw c ∧ nw ≤ c := by
          rcases hG with ⟨rfl, rfl⟩ | ⟨g1, o1, cap1, cs1, rfl, a1, a2, _⟩
          · exact ⟨none, 0, rfl, Nat.le_refl _⟩
          · exact ⟨_, _, rfl, a2⟩
        have k1 : (0 : Int) ≤ (n : Nat) ∧ ((n : Nat) : Int) ≤ (cs : Nat) := by omega
        have hcut := (hG.keepT hEd fun _ h => h.elim).cut (k := n) (by omega)
        obtain ⟨hw, hP2⟩ := hPd.setI (j := 35) hvi hil2 (by decide) (.slice qs n cs) li[i] hoi (fun w' c hk hS hI => by
          obtain ⟨sv', wv', n', rfl, b1, b2, b3⟩ := hI
          refine ⟨sv', .slice qs n cs, n, iC_set35 hoi.len _ _ _, b1.keepT hk fun g' hg' c => by subst hg'; exact (hS c).1, hcut.keepT hk fun g' hg' c => by subst hg'; exact hS c, by omega⟩)
        rw [List.set_getElem_self] at hP2
        (refine W_at c18_ok ?_; refine ⟨_, rfl, ?_⟩; simp (disch := first | omega | assumption | rfl | (simp only [vcS] <;> omega) | fail) only [↓ptV_l, ↓vcA, vcB, ↓vcD, vcE, ↓reduceIte, Nat.reduceEqDiff, Nat.reduceAdd, Nat.reduceMul, Nat.reduceLeDiff, Int.reduceLE, Int.reduceLT, Int.reduceEq, Int.reduceToNat, Int.reduceAdd, Int.reduceSub, Int.reduceMul, Int.reduceNeg, reduceCtorEq, Option.bind_some, Option.map_some, List.length_cons, List.length_nil, vcM, List.getElem?_toArray, List.getElem?_cons_zero, List.getElem?_cons_succ, hg4])
        (refine W_at c18_ok ?_; refine ⟨_, rfl, ?_⟩; simp (disch := first | omega | assumption | rfl | (simp only [vcS] <;> omega) | fail) only [↓ptV_l, ↓vcA, vcB, ↓vcD, vcE, ↓reduceIte, Nat.reduceEqDiff, Nat.reduceAdd, Nat.reduceMul, Nat.reduceLeDiff, Int.reduceLE, Int.reduceLT, Int.reduceEq, Int.reduceToNat, Int.reduceAdd, Int.reduceSub, Int.reduceMul, Int.reduceNeg, reduceCtorEq, Option.bind_some, Option.map_some, List.length_cons, List.length_nil, vcM, List.getElem?_toArray, List.getElem?_cons_zero, List.getElem?_cons_succ, d3, txC_1, hvi, c5, Int.toNat_natCast, q, k1, advA_0, Nat.sub_zero])
        refine ⟨hw, ?_⟩
        exact items _ li _ hl hP2 hd
      · (refine W_at c18_ok ?_; refine ⟨_, rfl, ?_⟩; simp (disch := first | omega | assumption | rfl | (simp only [vcS] <;> omega) | fail) only [↓ptV_l, ↓vcA, vcB, ↓vcD, vcE, ↓reduceIte, Nat.reduceEqDiff, Nat.reduceAdd, Nat.reduceMul, Nat.reduceLeDiff, Int.reduceLE, Int.reduceLT, Int.reduceEq, Int.reduceToNat, Int.reduceAdd, Int.reduceSub, Int.reduceMul, Int.reduceNeg, reduceCtorEq, Option.bind_some, Option.map_some, List.length_cons, List.length_nil, vcM, List.getElem?_toArray, List.getElem?_cons_zero, List.getElem?_cons_succ, hg4])
        exact items wj li _ hl hP hd
    obtain ⟨g, o, cap, c, hvi, hrd, ⟨sv, wv, nw, rfl, hsv, hG, hnw⟩, hm, cur, hg⟩ := ListN.at hP.ins hi0
    have hoi := hP.okI _ (List.getElem_mem hi0)
    have d3 := hP.c3
    have q := rdO_cell hrd (j := 33) (by omega)
    rw [iC_33 hoi.len] at q
    have hsl := hsv.1.len
    have hlen := ListN.len hP.ins
    (refine W_at c18_ok ?_; refine ⟨_, rfl, ?_⟩; simp (disch := first | omega | assumption | rfl | (simp only [vcS] <;> omega) | fail) only [↓ptV_l, ↓vcA, vcB, ↓vcD, vcE, ↓reduceIte, Nat.reduceEqDiff, Nat.reduceAdd, Nat.reduceMul, Nat.reduceLeDiff, Int.reduceLE, Int.reduceLT, Int.reduceEq, Int.reduceToNat, Int.reduceAdd, Int.reduceSub, Int.reduceMul, Int.reduceNeg, reduceCtorEq, Option.bind_some, Option.map_some, List.length_cons, List.length_nil, vcM, List.getElem?_toArray, List.getElem?_cons_zero, List.getElem?_cons_succ, d3, txC_1, hlen, hil])
    (refine W_at c18_ok ?_; refine ⟨_, rfl, ?_⟩; simp (disch := first | omega | assumption | rfl | (simp only [vcS] <;> omega) | fail) only [↓ptV_l, ↓vcA, vcB, ↓vcD, vcE, ↓reduceIte, Nat.reduceEqDiff, Nat.reduceAdd, Nat.reduceMul, Nat.reduceLeDiff, Int.reduceLE, Int.reduceLT, Int.reduceEq, Int.reduceToNat, Int.reduceAdd, Int.reduceSub, Int.reduceMul, Int.reduceNeg, reduceCtorEq, Option.bind_some, Option.map_some, List.length_cons, List.length_nil, vcM, List.getElem?_toArray, List.getElem?_cons_zero, List.getElem?_cons_succ])
    (refine W_at c18_ok ?_; refine ⟨_, rfl, ?_⟩; simp (disch := first | omega | assumption | rfl | (simp only [vcS] <;> omega) | fail) only [↓ptV_l, ↓vcA, vcB, ↓vcD, vcE, ↓reduceIte, Nat.reduceEqDiff, Nat.reduceAdd, Nat.reduceMul, Nat.reduceLeDiff, Int.reduceLE, Int.reduceLT, Int.reduceEq, Int.reduceToNat, Int.reduceAdd, Int.reduceSub, Int.reduceMul, Int.reduceNeg, reduceCtorEq, Option.bind_some, Option.map_some, List.length_cons, List.length_nil, vcM, List.getElem?_toArray, List.getElem?_cons_zero, List.getElem?_cons_succ, d3, txC_1, hvi, c3, Int.toNat_natCast, q, hsl])
    by_cases hg4 : (by' : Int) < (li0[i].script.length : Nat)
    · have hEd : Ext wj0 wj0.drew := (Keep.refl _ wj0).drew
      have hPd := hP.keep hEd
      obtain ⟨qs, cs, rfl, hcs⟩ := hsv.1.is
      have k1 : (0 : Int) ≤ (by' : Nat) ∧ ((by' : Nat) : Int) ≤ (cs : Nat) := by omega
      have hcut := (hsv.keepT hEd fun _ h => h.elim).cut (k := by') (by omega)
      obtain ⟨hw, hP2⟩ := hPd.setI (j := 33) hvi hi0 (by decide) (.slice qs by' cs) { li0[i] with script := li0[i].script.take by' } ⟨hoi.len, hoi.prev, hoi.idx, byt_take hoi.script _, hoi.seq, hoi.wit⟩ (fun w' c hk hS hI => by
        obtain ⟨sv', wv', n', rfl, b1, b2, b3⟩ := hI
        refine ⟨.slice qs by' cs, wv', n', ?_, hcut.keepT hk fun g' hg' c => by subst hg'; exact (hS c).1, b2.keepT hk fun g' hg' c => by subst hg'; exact hS c, b3⟩
        rw [iC_set33 hoi.len]; rfl)
      (refine W_at c18_ok ?_; refine ⟨_, rfl, ?_⟩; simp (disch := first | omega | assumption | rfl | (simp only [vcS] <;> omega) | fail) only [↓ptV_l, ↓vcA, vcB, ↓vcD, vcE, ↓reduceIte, Nat.reduceEqDiff, Nat.reduceAdd, Nat.reduceMul, Nat.reduceLeDiff, Int.reduceLE, Int.reduceLT, Int.reduceEq, Int.reduceToNat, Int.reduceAdd, Int.reduceSub, Int.reduceMul, Int.reduceNeg, reduceCtorEq, Option.bind_some, Option.map_some, List.length_cons, List.length_nil, vcM, List.getElem?_toArray, List.getElem?_cons_zero, List.getElem?_cons_succ, hg4])
      (refine W_at c18_ok ?_; refine ⟨_, rfl, ?_⟩; simp (disch := first | omega | assumption | rfl | (simp only [vcS] <;> omega) | fail) only [↓ptV_l, ↓vcA, vcB, ↓vcD, vcE, ↓reduceIte, Nat.reduceEqDiff, Nat.reduceAdd, Nat.reduceMul, Nat.reduceLeDiff, Int.reduceLE, Int.reduceLT, Int.reduceEq, Int.reduceToNat, Int.reduceAdd, Int.reduceSub, Int.reduceMul, Int.reduceNeg, reduceCtorEq, Option.bind_some, Option.map_some, List.length_cons, List.length_nil, vcM, List.getElem?_toArray, List.getElem?_cons_zero, List.getElem?_cons_succ, d3, txC_1, hvi, c3, Int.toNat_natCast, q, k1, advA_0, Nat.sub_zero])
      refine ⟨hw, ?_⟩
      refine wits _ _ _ (by rw [List.length_set]) hP2 fun j hj hji => ?_
      rw [List.length_set] at hj
      by_cases hjj : i = j
      · subst hjj
        rw [List.getElem_set_self]
        show (li0[i].script.take by').length ≤ by'
        rw [List.length_take]; omega
      · rw [List.getElem_set_ne hjj]
        exact hd j hj (by omega)
    · (refine W_at c18_ok ?_; refine ⟨_, rfl, ?_⟩; simp (disch := first | omega | assumption | rfl | (simp only [vcS] <;> omega) | fail) only [↓ptV_l, ↓vcA, vcB, ↓vcD, vcE, ↓reduceIte, Nat.reduceEqDiff, Nat.reduceAdd, Nat.reduceMul, Nat.reduceLeDiff, Int.reduceLE, Int.reduceLT, Int.reduceEq, Int.reduceToNat, Int.reduceAdd, Int.reduceSub, Int.reduceMul, Int.reduceNeg, reduceCtorEq, Option.bind_some, Option.map_some, List.length_cons, List.length_nil, vcM, List.getElem?_toArray, List.getElem?_cons_zero, List.getElem?_cons_succ, hg4])
      refine wits wj0 li0 _ rfl hP fun j hj hji => ?_
      by_cases hjj : j = i
      · subst hjj; omega
      · exact hd j hj (by omega)
set_option maxHeartbeats 3200000 in
theorem few_ok (w : World) (iv ov : Value) (t : TxV) (n by' : Nat) (hT : TxR w iv ov t) (hok : t.Ok) (hsz : t.Sz) (hn : n ≤ 100) (hb : by' ≤ 100000) :
    Calls Try.prog 18 #[.agg (txC t iv ov), .int .i64 (n : Nat), .int .i64 (by' : Nat)] w (Ret fun u w' => ∃ t' iv' ov', u = .agg (txC t' iv' ov') ∧ TxT w.heap.size w' iv' ov' t' ∧ t'.Ok ∧ t'.Sz ∧ t'.Lim n by' ∧ Ext w w') := by
  refine calls_of_cfg c18_ok (Nat.le_of_ble_eq_true rfl) ?_
  simp only [argE_nil, argE_cons, Nat.reduceAdd, Nat.zero_add]
  show W Try.prog (FewQ w n by') _ _ _ _
  have hi1 := ListR.one hT.ins
  have ho1 := ListR.one hT.outs
  have hfx : flat (txC t iv ov) := by intro y hy; simp only [txC, List.mem_toArray, List.mem_cons, List.not_mem_nil, or_false] at hy; rcases hy with rfl | rfl | rfl | rfl <;> first | rfl | assumption
  have hcx : (Value.agg (txC t iv ov)).cells = txC t iv ov := rfl
  have hzx := txC_sz t iv ov
  (refine W_at c18_ok ?_; refine ⟨_, rfl, ?_⟩; simp (disch := first | omega | assumption | rfl | (simp only [vcS] <;> omega) | fail) only [↓ptV_l, ↓vcA, vcB, ↓vcD, vcE, ↓reduceIte, Nat.reduceEqDiff, Nat.reduceAdd, Nat.reduceMul, Nat.reduceLeDiff, Int.reduceLE, Int.reduceLT, Int.reduceEq, Int.reduceToNat, Int.reduceAdd, Int.reduceSub, Int.reduceMul, Int.reduceNeg, reduceCtorEq, Option.bind_some, Option.map_some, List.length_cons, List.length_nil, vcM, List.getElem?_toArray, List.getElem?_cons_zero, List.getElem?_cons_succ, hfx, hcx, hzx])
  have hE1 : Ext w (w.alloc (.cells (txC t iv ov) 26)) := (Keep.refl _ w).alloc _
  have c1 : (w.alloc (.cells (txC t iv ov) 26)).heap[w.heap.size]? = some (.cells (txC t iv ov) 26 (0, 0)) := heap_new _ _ _ rfl
  have s1 : (w.alloc (.cells (txC t iv ov) 26)).heap.size = w.heap.size + 1 := size_alloc _ _
  generalize World.alloc w _ = w1 at hE1 c1 s1 ⊢
  have hE2 : Ext w1 (w1.alloc (.cells (zc [(1, .int .i32 0), (2, .slice none 0 0), (1, .int .u32 0)]) 26)) := (Keep.refl _ w1).alloc _
  have c2 : (w1.alloc (.cells (zc [(1, .int .i32 0), (2, .slice none 0 0), (1, .int .u32 0)]) 26)).heap[w1.heap.size]? = some (.cells (zc [(1, .int .i32 0), (2, .slice none 0 0), (1, .int .u32 0)]) 26 (0, 0)) := heap_new _ _ _ rfl
  generalize World.alloc w1 _ = w2 at hE2 c2 ⊢
  rw [s1] at c2
  generalize hp1 : w.heap.size = p3 at c1 c2 s1 ⊢
  generalize hp2 : p3 + 1 = p6 at c2 s1 ⊢
  have c12 := hE2.at c1 (fun h => h)
  have hE02 := hE1.ext hE2
  have hr4 : rdO (some (.cells (txC t iv ov) 26 (0, 0))) 0 4 = some (txC t iv ov) := rdO_all _ _ _ _ rfl
  (refine W_at c18_ok ?_; refine ⟨_, rfl, ?_⟩; simp (disch := first | omega | assumption | rfl | (simp only [vcS] <;> omega) | fail) only [↓ptV_l, ↓vcA, vcB, ↓vcD, vcE, ↓reduceIte, Nat.reduceEqDiff, Nat.reduceAdd, Nat.reduceMul, Nat.reduceLeDiff, Int.reduceLE, Int.reduceLT, Int.reduceEq, Int.reduceToNat, Int.reduceAdd, Int.reduceSub, Int.reduceMul, Int.reduceNeg, reduceCtorEq, Option.bind_some, Option.map_some, List.length_cons, List.length_nil, vcM, List.getElem?_toArray, List.getElem?_cons_zero, List.getElem?_cons_succ, c12, hr4])
  refine callV_ret (rcopy_ok w2 iv ov t (hT.ext hE02) hok hsz) ?_
  rintro _ w3 ⟨vi, vo, rfl, hI, hO, hE3⟩
  have c13 := hE3.at c12 (fun h => h)
  have c23 := hE3.at c2 (fun h => h)
  have hz2 := txC_sz t vi vo
  have ho4 : okO (some (.cells (txC t iv ov) 26 (0, 0))) 0 4 = True := by simp only [okO, hzx]; simp
  first | (simp (disch := first | omega | assumption | rfl | (simp only [vcS] <;> omega) | fail) only [↓ptV_l, ↓vcA, vcB, ↓vcD, vcE, ↓reduceIte, Nat.reduceEqDiff, Nat.reduceAdd, Nat.reduceMul, Nat.reduceLeDiff, Int.reduceLE, Int.reduceLT, Int.reduceEq, Int.reduceToNat, Int.reduceAdd, Int.reduceSub, Int.reduceMul, Int.reduceNeg, reduceCtorEq, Option.bind_some, Option.map_some, List.length_cons, List.length_nil, vcM, List.getElem?_toArray, List.getElem?_cons_zero, List.getElem?_cons_succ, c13, hz2, ho4]) | skip
  have hw2 : w.heap.size ≤ w2.heap.size := hE02.size
  have hfv : flat (txC t vi vo) := by
    have a1 := ListN.one hI
    have a2 := ListN.one hO
    intro y hy; simp only [txC, List.mem_toArray, List.mem_cons, List.not_mem_nil, or_false] at hy; rcases hy with rfl | rfl | rfl | rfl <;> first | rfl | assumption
  refine ⟨hfv, ?_⟩
  have hk4 : Keep (fun g => g = p3) w3 (w3.putN p3 0 (txC t vi vo)) := (Keep.refl _ w3).putN _ fun _ => rfl
  have hP : FwS w (w3.putN p3 0 (txC t vi vo)) p3 p6 t vi vo t.ins t.outs := by
    refine ⟨(hE02.ext hE3).trans hk4 fun g hg e => by omega, by rw [heap_putN_eq c13, splice_all (by rw [hzx, hz2])], ⟨_, hk4.at c23 (by omega), by decide⟩, ?_, ?_, by omega, by omega, by omega, hok.ins, hok.outs⟩
    · exact ListN.imp (InsN.setT hI hk4 c13 (by decide) (by decide) (by decide)) hw2 fun c x hx hR => (hR.base hw2).ig (hok.ins x hx) (hsz.inp x hx)
    · exact ListN.imp (OusN.setT hO hk4 c13 (by decide) (by decide)) hw2 fun c y hy hR => (hR.base hw2).og (hok.outs y hy) (hsz.out y hy)
  generalize World.putN _ _ _ _ = w4 at hP ⊢
  clear hk4 hfv c13 c23 hI hO hE3 c12 hr4 hE02 hE1 hE2 c1 c2
  have after : ∀ wj vi li tl, FwS w wj p3 p6 t vi vo li t.outs → li.length ≤ n → W Try.prog (FewQ w n by') 18 32 ((1, .int .i64 (n : Nat)) :: (2, .int .i64 (by' : Nat)) :: (3, .pointer (some ⟨p3, 0, none⟩)) :: (6, .pointer (some ⟨p6, 0, none⟩)) :: tl) wj := by
    intro wj vi li tl hP hli
    have go : ∀ wj vo lo tl, FwS w wj p3 p6 t vi vo li lo → lo.length ≤ n → W Try.prog (FewQ w n by') 18 29 ((1, .int .i64 (n : Nat)) :: (2, .int .i64 (by' : Nat)) :: (3, .pointer (some ⟨p3, 0, none⟩)) :: (6, .pointer (some ⟨p6, 0, none⟩)) :: tl) wj := by
      intro wj vo lo tl hP hlo
      (refine W_at c18_ok ?_; refine ⟨_, rfl, ?_⟩; simp (disch := first | omega | assumption | rfl | (simp only [vcS] <;> omega) | fail) only [↓ptV_l, ↓vcA, vcB, ↓vcD, vcE, ↓reduceIte, Nat.reduceEqDiff, Nat.reduceAdd, Nat.reduceMul, Nat.reduceLeDiff, Int.reduceLE, Int.reduceLT, Int.reduceEq, Int.reduceToNat, Int.reduceAdd, Int.reduceSub, Int.reduceMul, Int.reduceNeg, reduceCtorEq, Option.bind_some, Option.map_some, List.length_cons, List.length_nil, vcM, List.getElem?_toArray, List.getElem?_cons_zero, List.getElem?_cons_succ])
      exact few_ins w p3 p6 t n by' hok hn hb vi vo lo hlo li.length 0 wj li _ (by omega) hli hP fun j _ h => by omega
    have d3 := hP.c3
    have hlen := ListN.len hP.outs
    (refine W_at c18_ok ?_; refine ⟨_, rfl, ?_⟩; simp (disch := first | omega | assumption | rfl | (simp only [vcS] <;> omega) | fail) only [↓ptV_l, ↓vcA, vcB, ↓vcD, vcE, ↓reduceIte, Nat.reduceEqDiff, Nat.reduceAdd, Nat.reduceMul, Nat.reduceLeDiff, Int.reduceLE, Int.reduceLT, Int.reduceEq, Int.reduceToNat, Int.reduceAdd, Int.reduceSub, Int.reduceMul, Int.reduceNeg, reduceCtorEq, Option.bind_some, Option.map_some, List.length_cons, List.length_nil, vcM, List.getElem?_toArray, List.getElem?_cons_zero, List.getElem?_cons_succ, d3, txC_2, hlen])
    by_cases hg : (n : Int) < (t.outs.length : Nat)
    · obtain ⟨q, c, rfl, hc⟩ := ListN.is hP.outs
      have k1 : (0 : Int) ≤ (n : Nat) ∧ ((n : Nat) : Int) ≤ (c : Nat) := by omega
      obtain ⟨hw, hP2⟩ := hP.put2 (ListN.take hP.outs (k := n) (by omega)) fun x hx => List.mem_of_mem_take hx
      have h1 : (Value.slice q n c).oneCell' = true := rfl
      (refine W_at c18_ok ?_; refine ⟨_, rfl, ?_⟩; simp (disch := first | omega | assumption | rfl | (simp only [vcS] <;> omega) | fail) only [↓ptV_l, ↓vcA, vcB, ↓vcD, vcE, ↓reduceIte, Nat.reduceEqDiff, Nat.reduceAdd, Nat.reduceMul, Nat.reduceLeDiff, Int.reduceLE, Int.reduceLT, Int.reduceEq, Int.reduceToNat, Int.reduceAdd, Int.reduceSub, Int.reduceMul, Int.reduceNeg, reduceCtorEq, Option.bind_some, Option.map_some, List.length_cons, List.length_nil, vcM, List.getElem?_toArray, List.getElem?_cons_zero, List.getElem?_cons_succ, hg])
      (refine W_at c18_ok ?_; refine ⟨_, rfl, ?_⟩; simp (disch := first | omega | assumption | rfl | (simp only [vcS] <;> omega) | fail) only [↓ptV_l, ↓vcA, vcB, ↓vcD, vcE, ↓reduceIte, Nat.reduceEqDiff, Nat.reduceAdd, Nat.reduceMul, Nat.reduceLeDiff, Int.reduceLE, Int.reduceLT, Int.reduceEq, Int.reduceToNat, Int.reduceAdd, Int.reduceSub, Int.reduceMul, Int.reduceNeg, reduceCtorEq, Option.bind_some, Option.map_some, List.length_cons, List.length_nil, vcM, List.getElem?_toArray, List.getElem?_cons_zero, List.getElem?_cons_succ, d3, txC_2, k1, Int.toNat_natCast, advA_0, Nat.sub_zero])
      refine ⟨hw, ?_⟩
      exact go _ _ _ _ hP2 (by rw [List.length_take]; omega)
    · (refine W_at c18_ok ?_; refine ⟨_, rfl, ?_⟩; simp (disch := first | omega | assumption | rfl | (simp only [vcS] <;> omega) | fail) only [↓ptV_l, ↓vcA, vcB, ↓vcD, vcE, ↓reduceIte, Nat.reduceEqDiff, Nat.reduceAdd, Nat.reduceMul, Nat.reduceLeDiff, Int.reduceLE, Int.reduceLT, Int.reduceEq, Int.reduceToNat, Int.reduceAdd, Int.reduceSub, Int.reduceMul, Int.reduceNeg, reduceCtorEq, Option.bind_some, Option.map_some, List.length_cons, List.length_nil, vcM, List.getElem?_toArray, List.getElem?_cons_zero, List.getElem?_cons_succ, hg])
      exact go _ _ _ _ hP (by omega)
  have d3 := hP.c3
  have hlen := ListN.len hP.ins
  (refine W_at c18_ok ?_; refine ⟨_, rfl, ?_⟩; simp (disch := first | omega | assumption | rfl | (simp only [vcS] <;> omega) | fail) only [↓ptV_l, ↓vcA, vcB, ↓vcD, vcE, ↓reduceIte, Nat.reduceEqDiff, Nat.reduceAdd, Nat.reduceMul, Nat.reduceLeDiff, Int.reduceLE, Int.reduceLT, Int.reduceEq, Int.reduceToNat, Int.reduceAdd, Int.reduceSub, Int.reduceMul, Int.reduceNeg, reduceCtorEq, Option.bind_some, Option.map_some, List.length_cons, List.length_nil, vcM, List.getElem?_toArray, List.getElem?_cons_zero, List.getElem?_cons_succ, d3, txC_1, hlen])
  by_cases hg : (n : Int) < (t.ins.length : Nat)
  · obtain ⟨q, c, rfl, hc⟩ := ListN.is hP.ins
    have k1 : (0 : Int) ≤ (n : Nat) ∧ ((n : Nat) : Int) ≤ (c : Nat) := by omega
    obtain ⟨hw, hP2⟩ := hP.put1 (ListN.take hP.ins (k := n) (by omega)) fun x hx => List.mem_of_mem_take hx
    (refine W_at c18_ok ?_; refine ⟨_, rfl, ?_⟩; simp (disch := first | omega | assumption | rfl | (simp only [vcS] <;> omega) | fail) only [↓ptV_l, ↓vcA, vcB, ↓vcD, vcE, ↓reduceIte, Nat.reduceEqDiff, Nat.reduceAdd, Nat.reduceMul, Nat.reduceLeDiff, Int.reduceLE, Int.reduceLT, Int.reduceEq, Int.reduceToNat, Int.reduceAdd, Int.reduceSub, Int.reduceMul, Int.reduceNeg, reduceCtorEq, Option.bind_some, Option.map_some, List.length_cons, List.length_nil, vcM, List.getElem?_toArray, List.getElem?_cons_zero, List.getElem?_cons_succ, hg])
    (refine W_at c18_ok ?_; refine ⟨_, rfl, ?_⟩; simp (disch := first | omega | assumption | rfl | (simp only [vcS] <;> omega) | fail) only [↓ptV_l, ↓vcA, vcB, ↓vcD, vcE, ↓reduceIte, Nat.reduceEqDiff, Nat.reduceAdd, Nat.reduceMul, Nat.reduceLeDiff, Int.reduceLE, Int.reduceLT, Int.reduceEq, Int.reduceToNat, Int.reduceAdd, Int.reduceSub, Int.reduceMul, Int.reduceNeg, reduceCtorEq, Option.bind_some, Option.map_some, List.length_cons, List.length_nil, vcM, List.getElem?_toArray, List.getElem?_cons_zero, List.getElem?_cons_succ, d3, txC_1, k1, Int.toNat_natCast, advA_0, Nat.sub_zero])
    refine ⟨hw, ?_⟩
    exact after _ _ _ _ hP2 (by rw [List.length_take]; omega)
  · (refine W_at c18_ok ?_; refine ⟨_, rfl, ?_⟩; simp (disch := first | omega | assumption | rfl | (simp only [vcS] <;> omega) | fail) only [↓ptV_l, ↓vcA, vcB, ↓vcD, vcE, ↓reduceIte, Nat.reduceEqDiff, Nat.reduceAdd, Nat.reduceMul, Nat.reduceLeDiff, Int.reduceLE, Int.reduceLT, Int.reduceEq, Int.reduceToNat, Int.reduceAdd, Int.reduceSub, Int.reduceMul, Int.reduceNeg, reduceCtorEq, Option.bind_some, Option.map_some, List.length_cons, List.length_nil, vcM, List.getElem?_toArray, List.getElem?_cons_zero, List.getElem?_cons_succ, hg])
    exact after _ _ _ _ hP (by omega)
end Go.Proofs
namespace Go.Proofs
open Go.Vc
set_option maxRecDepth 10000

theorem appB4 {w : World} {v x : Value} {bs news : List Int} {K : Value → World → Prop} (h : Own1 w v bs) (hx : Rd w x news) (hlen : bs.length + news.length ≤ 140737488355328)
    (hk : ∀ v' w', Own1 w' v' (bs ++ news) → Keep (blk v) w w' → (∀ g, blk v' g → blk v g ∨ w.heap.size ≤ g) → K v' w') : appV 5 1 1 [.int .u8 0] v x w K := by
  obtain ⟨⟨q, c, rfl, hc⟩, hm, hr⟩ := hx
  have hml : maxLen = 9223372036854775807 := rfl
  refine appV_own3 h rfl hr (bv_flat news) (by omega) (by omega) rfl (Nat.zero_le _) (by omega) fun v' w' ho hg hb => hk v' w' ?_ ?_ hb
  · have e : bv (bs ++ news) = bv bs ++ (bv news).toArray.toList := by rw [bv_app]
    show w'.ownsRow 0 5 1 v' (bs ++ news).length (bv (bs ++ news))
    rw [e, List.length_append]; exact ho
  · exact (Keep.refl _ w).grown hg fun k _ h => h
/-- A copy of one's own, however long. -/
theorem clone4_ok (w : World) (v : Value) (bs : List Int) (h : Rd w v bs) (hn : bs.length ≤ 140737488355328) :
    Calls Try.prog 50 #[v] w (Ret fun u w' => Own1 w' u bs ∧ Ext w w' ∧ ∀ g, blk u g → w.heap.size ≤ g) := by
  refine calls_of_cfg c50_ok (Nat.le_of_ble_eq_true rfl) ?_
  simp only [argE_nil, argE_cons, Nat.reduceAdd, Nat.zero_add]
  have h0 := h
  obtain ⟨⟨q, c, rfl, hc⟩, hm, hr⟩ := h
  (refine W_at c50_ok ?_; refine ⟨_, rfl, ?_⟩; simp (disch := first | omega | assumption | rfl | (simp only [vcS] <;> omega) | fail) only [↓ptV_l, ↓vcA, vcB, ↓vcD, vcE, ↓reduceIte, Nat.reduceEqDiff, Nat.reduceAdd, Nat.reduceMul, Nat.reduceLeDiff, Int.reduceLE, Int.reduceLT, Int.reduceEq, Int.reduceToNat, Int.reduceAdd, Int.reduceSub, Int.reduceMul, Int.reduceNeg, reduceCtorEq, Option.bind_some, Option.map_some, List.length_cons, List.length_nil, vcM, List.getElem?_toArray, List.getElem?_cons_zero, List.getElem?_cons_succ])
  cases q with
  | none =>
    have hb0 : bs = [] := by
      cases bs with
      | nil => rfl
      | cons b bs =>
        simp only [rdS, List.length_cons] at hr
        rw [if_neg (by omega)] at hr; cases hr
    subst hb0
    (refine W_at c50_ok ?_; refine ⟨_, rfl, ?_⟩; simp (disch := first | omega | assumption | rfl | (simp only [vcS] <;> omega) | fail) only [↓ptV_l, ↓vcA, vcB, ↓vcD, vcE, ↓reduceIte, Nat.reduceEqDiff, Nat.reduceAdd, Nat.reduceMul, Nat.reduceLeDiff, Int.reduceLE, Int.reduceLT, Int.reduceEq, Int.reduceToNat, Int.reduceAdd, Int.reduceSub, Int.reduceMul, Int.reduceNeg, reduceCtorEq, Option.bind_some, Option.map_some, List.length_cons, List.length_nil, vcM, List.getElem?_toArray, List.getElem?_cons_zero, List.getElem?_cons_succ, eqS_none])
    (refine W_at c50_ok ?_; refine ⟨_, rfl, ?_⟩; simp (disch := first | omega | assumption | rfl | (simp only [vcS] <;> omega) | fail) only [↓ptV_l, ↓vcA, vcB, ↓vcD, vcE, ↓reduceIte, Nat.reduceEqDiff, Nat.reduceAdd, Nat.reduceMul, Nat.reduceLeDiff, Int.reduceLE, Int.reduceLT, Int.reduceEq, Int.reduceToNat, Int.reduceAdd, Int.reduceSub, Int.reduceMul, Int.reduceNeg, reduceCtorEq, Option.bind_some, Option.map_some, List.length_cons, List.length_nil, vcM, List.getElem?_toArray, List.getElem?_cons_zero, List.getElem?_cons_succ])
    (refine W_at c50_ok ?_; refine ⟨_, rfl, ?_⟩; simp (disch := first | omega | assumption | rfl | (simp only [vcS] <;> omega) | fail) only [↓ptV_l, ↓vcA, vcB, ↓vcD, vcE, ↓reduceIte, Nat.reduceEqDiff, Nat.reduceAdd, Nat.reduceMul, Nat.reduceLeDiff, Int.reduceLE, Int.reduceLT, Int.reduceEq, Int.reduceToNat, Int.reduceAdd, Int.reduceSub, Int.reduceMul, Int.reduceNeg, reduceCtorEq, Option.bind_some, Option.map_some, List.length_cons, List.length_nil, vcM, List.getElem?_toArray, List.getElem?_cons_zero, List.getElem?_cons_succ])
    (refine W_at c50_ok ?_; refine ⟨_, rfl, ?_⟩; simp (disch := first | omega | assumption | rfl | (simp only [vcS] <;> omega) | fail) only [↓ptV_l, ↓vcA, vcB, ↓vcD, vcE, ↓reduceIte, Nat.reduceEqDiff, Nat.reduceAdd, Nat.reduceMul, Nat.reduceLeDiff, Int.reduceLE, Int.reduceLT, Int.reduceEq, Int.reduceToNat, Int.reduceAdd, Int.reduceSub, Int.reduceMul, Int.reduceNeg, reduceCtorEq, Option.bind_some, Option.map_some, List.length_cons, List.length_nil, vcM, List.getElem?_toArray, List.getElem?_cons_zero, List.getElem?_cons_succ, Ret_returned])
    exact ⟨Own1.nil w, Keep.refl _ w, fun g hg => by cases hg⟩
  | some a =>
    (refine W_at c50_ok ?_; refine ⟨_, rfl, ?_⟩; simp (disch := first | omega | assumption | rfl | (simp only [vcS] <;> omega) | fail) only [↓ptV_l, ↓vcA, vcB, ↓vcD, vcE, ↓reduceIte, Nat.reduceEqDiff, Nat.reduceAdd, Nat.reduceMul, Nat.reduceLeDiff, Int.reduceLE, Int.reduceLT, Int.reduceEq, Int.reduceToNat, Int.reduceAdd, Int.reduceSub, Int.reduceMul, Int.reduceNeg, reduceCtorEq, Option.bind_some, Option.map_some, List.length_cons, List.length_nil, vcM, List.getElem?_toArray, List.getElem?_cons_zero, List.getElem?_cons_succ, eqS_some])
    (refine W_at c50_ok ?_; refine ⟨_, rfl, ?_⟩; simp (disch := first | omega | assumption | rfl | (simp only [vcS] <;> omega) | fail) only [↓ptV_l, ↓vcA, vcB, ↓vcD, vcE, ↓reduceIte, Nat.reduceEqDiff, Nat.reduceAdd, Nat.reduceMul, Nat.reduceLeDiff, Int.reduceLE, Int.reduceLT, Int.reduceEq, Int.reduceToNat, Int.reduceAdd, Int.reduceSub, Int.reduceMul, Int.reduceNeg, reduceCtorEq, Option.bind_some, Option.map_some, List.length_cons, List.length_nil, vcM, List.getElem?_toArray, List.getElem?_cons_zero, List.getElem?_cons_succ])
    (refine W_at c50_ok ?_; refine ⟨_, rfl, ?_⟩; simp (disch := first | omega | assumption | rfl | (simp only [vcS] <;> omega) | fail) only [↓ptV_l, ↓vcA, vcB, ↓vcD, vcE, ↓reduceIte, Nat.reduceEqDiff, Nat.reduceAdd, Nat.reduceMul, Nat.reduceLeDiff, Int.reduceLE, Int.reduceLT, Int.reduceEq, Int.reduceToNat, Int.reduceAdd, Int.reduceSub, Int.reduceMul, Int.reduceNeg, reduceCtorEq, Option.bind_some, Option.map_some, List.length_cons, List.length_nil, vcM, List.getElem?_toArray, List.getElem?_cons_zero, List.getElem?_cons_succ])
    have hE : Ext w (w.alloc (.cells #[] 5)) := by (repeat' first | exact Keep.refl _ _ | assumption | refine Keep.drew ?_ | refine Keep.alloc ?_ _ | refine Keep.putN ?_ _ ?_ | refine Keep.setCell ?_ _ ?_ | refine Keep.setO ?_ _ ?_ | exact fun _ => Or.inl rfl | exact fun _ => Or.inr rfl | exact fun _ => rfl | (intro hh; exfalso; ((try simp only [vcS] at hh) <;> omega)))
    have ho : Own1 (w.alloc (.cells #[] 5)) (.slice (some ⟨w.heap.size, 0, none⟩) 0 0) [] := own_lit1 (bs := []) (Nat.zero_le _)
    refine appB4 ho (h0.ext hE) (by simp; omega) fun v' w' h1 h2 h3 => ?_
    (refine W_at c50_ok ?_; refine ⟨_, rfl, ?_⟩; simp (disch := first | omega | assumption | rfl | (simp only [vcS] <;> omega) | fail) only [↓ptV_l, ↓vcA, vcB, ↓vcD, vcE, ↓reduceIte, Nat.reduceEqDiff, Nat.reduceAdd, Nat.reduceMul, Nat.reduceLeDiff, Int.reduceLE, Int.reduceLT, Int.reduceEq, Int.reduceToNat, Int.reduceAdd, Int.reduceSub, Int.reduceMul, Int.reduceNeg, reduceCtorEq, Option.bind_some, Option.map_some, List.length_cons, List.length_nil, vcM, List.getElem?_toArray, List.getElem?_cons_zero, List.getElem?_cons_succ, Ret_returned])
    refine ⟨h1, hE.trans h2 fun i hi hb => ?_, fun g hg => ?_⟩
    · cases hb; exact absurd hi (Nat.lt_irrefl _)
    · rcases h3 g hg with hb | hb
      · cases hb; exact Nat.le_refl _
      · rw [size_alloc] at hb; omega
theorem cloneI_ok (w : World) (v : Value) (cs : List (Array Value)) (hr : rdS w 36 v = some (cs.flatMap Array.toList).toArray) (hsz : ∀ c ∈ cs, c.size = 36) (hfl : ∀ c ∈ cs, flat c) (hv : ∃ q c, v = .slice q cs.length c ∧ cs.length ≤ c) (hl : cs.length ≤ 100000) :
    Calls Try.prog 48 #[v] w (Ret fun u w' => OwnO w' w.heap.size 50 36 u cs ∧ Ext w w') := by
  refine calls_of_cfg c48_ok (Nat.le_of_ble_eq_true rfl) ?_
  simp only [argE_nil, argE_cons, Nat.reduceAdd, Nat.zero_add]
  obtain ⟨q, c, rfl, hc⟩ := hv
  (refine W_at c48_ok ?_; refine ⟨_, rfl, ?_⟩; simp (disch := first | omega | assumption | rfl | (simp only [vcS] <;> omega) | fail) only [↓ptV_l, ↓vcA, vcB, ↓vcD, vcE, ↓reduceIte, Nat.reduceEqDiff, Nat.reduceAdd, Nat.reduceMul, Nat.reduceLeDiff, Int.reduceLE, Int.reduceLT, Int.reduceEq, Int.reduceToNat, Int.reduceAdd, Int.reduceSub, Int.reduceMul, Int.reduceNeg, reduceCtorEq, Option.bind_some, Option.map_some, List.length_cons, List.length_nil, vcM, List.getElem?_toArray, List.getElem?_cons_zero, List.getElem?_cons_succ])
  cases q with
  | none =>
    have h0 : cs = [] := by
      by_cases h0 : cs.length = 0
      · exact List.eq_nil_of_length_eq_zero h0
      · simp only [rdS] at hr
        rw [if_neg (by omega)] at hr
        cases hr
    subst h0
    (refine W_at c48_ok ?_; refine ⟨_, rfl, ?_⟩; simp (disch := first | omega | assumption | rfl | (simp only [vcS] <;> omega) | fail) only [↓ptV_l, ↓vcA, vcB, ↓vcD, vcE, ↓reduceIte, Nat.reduceEqDiff, Nat.reduceAdd, Nat.reduceMul, Nat.reduceLeDiff, Int.reduceLE, Int.reduceLT, Int.reduceEq, Int.reduceToNat, Int.reduceAdd, Int.reduceSub, Int.reduceMul, Int.reduceNeg, reduceCtorEq, Option.bind_some, Option.map_some, List.length_cons, List.length_nil, vcM, List.getElem?_toArray, List.getElem?_cons_zero, List.getElem?_cons_succ, eqS_none])
    (refine W_at c48_ok ?_; refine ⟨_, rfl, ?_⟩; simp (disch := first | omega | assumption | rfl | (simp only [vcS] <;> omega) | fail) only [↓ptV_l, ↓vcA, vcB, ↓vcD, vcE, ↓reduceIte, Nat.reduceEqDiff, Nat.reduceAdd, Nat.reduceMul, Nat.reduceLeDiff, Int.reduceLE, Int.reduceLT, Int.reduceEq, Int.reduceToNat, Int.reduceAdd, Int.reduceSub, Int.reduceMul, Int.reduceNeg, reduceCtorEq, Option.bind_some, Option.map_some, List.length_cons, List.length_nil, vcM, List.getElem?_toArray, List.getElem?_cons_zero, List.getElem?_cons_succ])
    (refine W_at c48_ok ?_; refine ⟨_, rfl, ?_⟩; simp (disch := first | omega | assumption | rfl | (simp only [vcS] <;> omega) | fail) only [↓ptV_l, ↓vcA, vcB, ↓vcD, vcE, ↓reduceIte, Nat.reduceEqDiff, Nat.reduceAdd, Nat.reduceMul, Nat.reduceLeDiff, Int.reduceLE, Int.reduceLT, Int.reduceEq, Int.reduceToNat, Int.reduceAdd, Int.reduceSub, Int.reduceMul, Int.reduceNeg, reduceCtorEq, Option.bind_some, Option.map_some, List.length_cons, List.length_nil, vcM, List.getElem?_toArray, List.getElem?_cons_zero, List.getElem?_cons_succ])
    (refine W_at c48_ok ?_; refine ⟨_, rfl, ?_⟩; simp (disch := first | omega | assumption | rfl | (simp only [vcS] <;> omega) | fail) only [↓ptV_l, ↓vcA, vcB, ↓vcD, vcE, ↓reduceIte, Nat.reduceEqDiff, Nat.reduceAdd, Nat.reduceMul, Nat.reduceLeDiff, Int.reduceLE, Int.reduceLT, Int.reduceEq, Int.reduceToNat, Int.reduceAdd, Int.reduceSub, Int.reduceMul, Int.reduceNeg, reduceCtorEq, Option.bind_some, Option.map_some, List.length_cons, List.length_nil, vcM, List.getElem?_toArray, List.getElem?_cons_zero, List.getElem?_cons_succ, Ret_returned])
    exact ⟨OwnO.nil _ _ _ _, Keep.refl _ w⟩
  | some a =>
    (refine W_at c48_ok ?_; refine ⟨_, rfl, ?_⟩; simp (disch := first | omega | assumption | rfl | (simp only [vcS] <;> omega) | fail) only [↓ptV_l, ↓vcA, vcB, ↓vcD, vcE, ↓reduceIte, Nat.reduceEqDiff, Nat.reduceAdd, Nat.reduceMul, Nat.reduceLeDiff, Int.reduceLE, Int.reduceLT, Int.reduceEq, Int.reduceToNat, Int.reduceAdd, Int.reduceSub, Int.reduceMul, Int.reduceNeg, reduceCtorEq, Option.bind_some, Option.map_some, List.length_cons, List.length_nil, vcM, List.getElem?_toArray, List.getElem?_cons_zero, List.getElem?_cons_succ, eqS_sn])
    (refine W_at c48_ok ?_; refine ⟨_, rfl, ?_⟩; simp (disch := first | omega | assumption | rfl | (simp only [vcS] <;> omega) | fail) only [↓ptV_l, ↓vcA, vcB, ↓vcD, vcE, ↓reduceIte, Nat.reduceEqDiff, Nat.reduceAdd, Nat.reduceMul, Nat.reduceLeDiff, Int.reduceLE, Int.reduceLT, Int.reduceEq, Int.reduceToNat, Int.reduceAdd, Int.reduceSub, Int.reduceMul, Int.reduceNeg, reduceCtorEq, Option.bind_some, Option.map_some, List.length_cons, List.length_nil, vcM, List.getElem?_toArray, List.getElem?_cons_zero, List.getElem?_cons_succ])
    (refine W_at c48_ok ?_; refine ⟨_, rfl, ?_⟩; simp (disch := first | omega | assumption | rfl | (simp only [vcS] <;> omega) | fail) only [↓ptV_l, ↓vcA, vcB, ↓vcD, vcE, ↓reduceIte, Nat.reduceEqDiff, Nat.reduceAdd, Nat.reduceMul, Nat.reduceLeDiff, Int.reduceLE, Int.reduceLT, Int.reduceEq, Int.reduceToNat, Int.reduceAdd, Int.reduceSub, Int.reduceMul, Int.reduceNeg, reduceCtorEq, Option.bind_some, Option.map_some, List.length_cons, List.length_nil, vcM, List.getElem?_toArray, List.getElem?_cons_zero, List.getElem?_cons_succ])
    have hE : Ext w (w.alloc (.cells [].toArray 50)) := (Keep.refl _ w).alloc _
    have hO : OwnO (w.alloc (.cells [].toArray 50)) w.heap.size 50 36 (.slice (some ⟨w.heap.size, 0, none⟩) 0 0) [] :=
      ⟨fun _ h => (by cases h), .inr ⟨_, 0, 0, _, rfl, Nat.le_refl _, heap_new _ _ _ rfl, Nat.le_refl _, Nat.zero_le _, by simp, by simp⟩⟩
    refine appO4 (ids2 := cs) hO (rdS_keep hr hE fun _ _ h => h) rfl hsz hfl (by simp; omega) (by simp; omega) rfl hE.size (by decide) fun v' w' k1 k2 k3 => ?_
    rw [List.nil_append] at k1
    first | (simp (disch := first | omega | assumption | rfl | (simp only [vcS] <;> omega) | fail) only [↓ptV_l, ↓vcA, vcB, ↓vcD, vcE, ↓reduceIte, Nat.reduceEqDiff, Nat.reduceAdd, Nat.reduceMul, Nat.reduceLeDiff, Int.reduceLE, Int.reduceLT, Int.reduceEq, Int.reduceToNat, Int.reduceAdd, Int.reduceSub, Int.reduceMul, Int.reduceNeg, reduceCtorEq, Option.bind_some, Option.map_some, List.length_cons, List.length_nil, vcM, List.getElem?_toArray, List.getElem?_cons_zero, List.getElem?_cons_succ]) | skip
    (refine W_at c48_ok ?_; refine ⟨_, rfl, ?_⟩; simp (disch := first | omega | assumption | rfl | (simp only [vcS] <;> omega) | fail) only [↓ptV_l, ↓vcA, vcB, ↓vcD, vcE, ↓reduceIte, Nat.reduceEqDiff, Nat.reduceAdd, Nat.reduceMul, Nat.reduceLeDiff, Int.reduceLE, Int.reduceLT, Int.reduceEq, Int.reduceToNat, Int.reduceAdd, Int.reduceSub, Int.reduceMul, Int.reduceNeg, reduceCtorEq, Option.bind_some, Option.map_some, List.length_cons, List.length_nil, vcM, List.getElem?_toArray, List.getElem?_cons_zero, List.getElem?_cons_succ, Ret_returned])
    exact ⟨k1, hE.trans k2 fun i hi e => by have e' : w.heap.size = i := Option.some.inj e; omega⟩
theorem cloneO_ok (w : World) (v : Value) (cs : List (Array Value)) (hr : rdS w 2 v = some (cs.flatMap Array.toList).toArray) (hsz : ∀ c ∈ cs, c.size = 2) (hfl : ∀ c ∈ cs, flat c) (hv : ∃ q c, v = .slice q cs.length c ∧ cs.length ≤ c) (hl : cs.length ≤ 100000) :
    Calls Try.prog 49 #[v] w (Ret fun u w' => OwnO w' w.heap.size 54 2 u cs ∧ Ext w w') := by
  refine calls_of_cfg c49_ok (Nat.le_of_ble_eq_true rfl) ?_
  simp only [argE_nil, argE_cons, Nat.reduceAdd, Nat.zero_add]
  obtain ⟨q, c, rfl, hc⟩ := hv
  (refine W_at c49_ok ?_; refine ⟨_, rfl, ?_⟩; simp (disch := first | omega | assumption | rfl | (simp only [vcS] <;> omega) | fail) only [↓ptV_l, ↓vcA, vcB, ↓vcD, vcE, ↓reduceIte, Nat.reduceEqDiff, Nat.reduceAdd, Nat.reduceMul, Nat.reduceLeDiff, Int.reduceLE, Int.reduceLT, Int.reduceEq, Int.reduceToNat, Int.reduceAdd, Int.reduceSub, Int.reduceMul, Int.reduceNeg, reduceCtorEq, Option.bind_some, Option.map_some, List.length_cons, List.length_nil, vcM, List.getElem?_toArray, List.getElem?_cons_zero, List.getElem?_cons_succ])
  cases q with
  | none =>
    have h0 : cs = [] := by
      by_cases h0 : cs.length = 0
      · exact List.eq_nil_of_length_eq_zero h0
      · simp only [rdS] at hr
        rw [if_neg (by omega)] at hr
        cases hr
    subst h0
    (refine W_at c49_ok ?_; refine ⟨_, rfl, ?_⟩; simp (disch := first | omega | assumption | rfl | (simp only [vcS] <;> omega) | fail) only [↓ptV_l, ↓vcA, vcB, ↓vcD, vcE, ↓reduceIte, Nat.reduceEqDiff, Nat.reduceAdd, Nat.reduceMul, Nat.reduceLeDiff, Int.reduceLE, Int.reduceLT, Int.reduceEq, Int.reduceToNat, Int.reduceAdd, Int.reduceSub, Int.reduceMul, Int.reduceNeg, reduceCtorEq, Option.bind_some, Option.map_some, List.length_cons, List.length_nil, vcM, List.getElem?_toArray, List.getElem?_cons_zero, List.getElem?_cons_succ, eqS_none])
    (refine W_at c49_ok ?_; refine ⟨_, rfl, ?_⟩; simp (disch := first | omega | assumption | rfl | (simp only [vcS] <;> omega) | fail) only [↓ptV_l, ↓vcA, vcB, ↓vcD, vcE, ↓reduceIte, Nat.reduceEqDiff, Nat.reduceAdd, Nat.reduceMul, Nat.reduceLeDiff, Int.reduceLE, Int.reduceLT, Int.reduceEq, Int.reduceToNat, Int.reduceAdd, Int.reduceSub, Int.reduceMul, Int.reduceNeg, reduceCtorEq, Option.bind_some, Option.map_some, List.length_cons, List.length_nil, vcM, List.getElem?_toArray, List.getElem?_cons_zero, List.getElem?_cons_succ])
    (refine W_at c49_ok ?_; refine ⟨_, rfl, ?_⟩; simp (disch := first | omega | assumption | rfl | (simp only [vcS] <;> omega) | fail) only [↓ptV_l, ↓vcA, vcB, ↓vcD, vcE, ↓reduceIte, Nat.reduceEqDiff, Nat.reduceAdd, Nat.reduceMul, Nat.reduceLeDiff, Int.reduceLE, Int.reduceLT, Int.reduceEq, Int.reduceToNat, Int.reduceAdd, Int.reduceSub, Int.reduceMul, Int.reduceNeg, reduceCtorEq, Option.bind_some, Option.map_some, List.length_cons, List.length_nil, vcM, List.getElem?_toArray, List.getElem?_cons_zero, List.getElem?_cons_succ])
    (refine W_at c49_ok ?_; refine ⟨_, rfl, ?_⟩; simp (disch := first | omega | assumption | rfl | (simp only [vcS] <;> omega) | fail) only [↓ptV_l, ↓vcA, vcB, ↓vcD, vcE, ↓reduceIte, Nat.reduceEqDiff, Nat.reduceAdd, Nat.reduceMul, Nat.reduceLeDiff, Int.reduceLE, Int.reduceLT, Int.reduceEq, Int.reduceToNat, Int.reduceAdd, Int.reduceSub, Int.reduceMul, Int.reduceNeg, reduceCtorEq, Option.bind_some, Option.map_some, List.length_cons, List.length_nil, vcM, List.getElem?_toArray, List.getElem?_cons_zero, List.getElem?_cons_succ, Ret_returned])
    exact ⟨OwnO.nil _ _ _ _, Keep.refl _ w⟩
  | some a =>
    (refine W_at c49_ok ?_; refine ⟨_, rfl, ?_⟩; simp (disch := first | omega | assumption | rfl | (simp only [vcS] <;> omega) | fail) only [↓ptV_l, ↓vcA, vcB, ↓vcD, vcE, ↓reduceIte, Nat.reduceEqDiff, Nat.reduceAdd, Nat.reduceMul, Nat.reduceLeDiff, Int.reduceLE, Int.reduceLT, Int.reduceEq, Int.reduceToNat, Int.reduceAdd, Int.reduceSub, Int.reduceMul, Int.reduceNeg, reduceCtorEq, Option.bind_some, Option.map_some, List.length_cons, List.length_nil, vcM, List.getElem?_toArray, List.getElem?_cons_zero, List.getElem?_cons_succ, eqS_sn])
    (refine W_at c49_ok ?_; refine ⟨_, rfl, ?_⟩; simp (disch := first | omega | assumption | rfl | (simp only [vcS] <;> omega) | fail) only [↓ptV_l, ↓vcA, vcB, ↓vcD, vcE, ↓reduceIte, Nat.reduceEqDiff, Nat.reduceAdd, Nat.reduceMul, Nat.reduceLeDiff, Int.reduceLE, Int.reduceLT, Int.reduceEq, Int.reduceToNat, Int.reduceAdd, Int.reduceSub, Int.reduceMul, Int.reduceNeg, reduceCtorEq, Option.bind_some, Option.map_some, List.length_cons, List.length_nil, vcM, List.getElem?_toArray, List.getElem?_cons_zero, List.getElem?_cons_succ])
    (refine W_at c49_ok ?_; refine ⟨_, rfl, ?_⟩; simp (disch := first | omega | assumption | rfl | (simp only [vcS] <;> omega) | fail) only [↓ptV_l, ↓vcA, vcB, ↓vcD, vcE, ↓reduceIte, Nat.reduceEqDiff, Nat.reduceAdd, Nat.reduceMul, Nat.reduceLeDiff, Int.reduceLE, Int.reduceLT, Int.reduceEq, Int.reduceToNat, Int.reduceAdd, Int.reduceSub, Int.reduceMul, Int.reduceNeg, reduceCtorEq, Option.bind_some, Option.map_some, List.length_cons, List.length_nil, vcM, List.getElem?_toArray, List.getElem?_cons_zero, List.getElem?_cons_succ])
    have hE : Ext w (w.alloc (.cells [].toArray 54)) := (Keep.refl _ w).alloc _
    have hO : OwnO (w.alloc (.cells [].toArray 54)) w.heap.size 54 2 (.slice (some ⟨w.heap.size, 0, none⟩) 0 0) [] :=
      ⟨fun _ h => (by cases h), .inr ⟨_, 0, 0, _, rfl, Nat.le_refl _, heap_new _ _ _ rfl, Nat.le_refl _, Nat.zero_le _, by simp, by simp⟩⟩
    refine appO4 (ids2 := cs) hO (rdS_keep hr hE fun _ _ h => h) rfl hsz hfl (by simp; omega) (by simp; omega) rfl hE.size (by decide) fun v' w' k1 k2 k3 => ?_
    rw [List.nil_append] at k1
    first | (simp (disch := first | omega | assumption | rfl | (simp only [vcS] <;> omega) | fail) only [↓ptV_l, ↓vcA, vcB, ↓vcD, vcE, ↓reduceIte, Nat.reduceEqDiff, Nat.reduceAdd, Nat.reduceMul, Nat.reduceLeDiff, Int.reduceLE, Int.reduceLT, Int.reduceEq, Int.reduceToNat, Int.reduceAdd, Int.reduceSub, Int.reduceMul, Int.reduceNeg, reduceCtorEq, Option.bind_some, Option.map_some, List.length_cons, List.length_nil, vcM, List.getElem?_toArray, List.getElem?_cons_zero, List.getElem?_cons_succ]) | skip
    (refine W_at c49_ok ?_; refine ⟨_, rfl, ?_⟩; simp (disch := first | omega | assumption | rfl | (simp only [vcS] <;> omega) | fail) only [↓ptV_l, ↓vcA, vcB, ↓vcD, vcE, ↓reduceIte, Nat.reduceEqDiff, Nat.reduceAdd, Nat.reduceMul, Nat.reduceLeDiff, Int.reduceLE, Int.reduceLT, Int.reduceEq, Int.reduceToNat, Int.reduceAdd, Int.reduceSub, Int.reduceMul, Int.reduceNeg, reduceCtorEq, Option.bind_some, Option.map_some, List.length_cons, List.length_nil, vcM, List.getElem?_toArray, List.getElem?_cons_zero, List.getElem?_cons_succ, Ret_returned])
    exact ⟨k1, hE.trans k2 fun i hi e => by have e' : w.heap.size = i := Option.some.inj e; omega⟩
theorem cloneR_ok (w : World) (v : Value) (cs : List (Array Value)) (hr : rdS w 1 v = some (cs.flatMap Array.toList).toArray) (hsz : ∀ c ∈ cs, c.size = 1) (hfl : ∀ c ∈ cs, flat c) (hv : ∃ q c, v = .slice q cs.length c ∧ cs.length ≤ c) (hl : cs.length * 24 ≤ 140737488355328) :
    Calls Try.prog 51 #[v] w (Ret fun u w' => OwnO w' w.heap.size 27 1 u cs ∧ Ext w w') := by
  refine calls_of_cfg c51_ok (Nat.le_of_ble_eq_true rfl) ?_
  simp only [argE_nil, argE_cons, Nat.reduceAdd, Nat.zero_add]
  obtain ⟨q, c, rfl, hc⟩ := hv
  (refine W_at c51_ok ?_; refine ⟨_, rfl, ?_⟩; simp (disch := first | omega | assumption | rfl | (simp only [vcS] <;> omega) | fail) only [↓ptV_l, ↓vcA, vcB, ↓vcD, vcE, ↓reduceIte, Nat.reduceEqDiff, Nat.reduceAdd, Nat.reduceMul, Nat.reduceLeDiff, Int.reduceLE, Int.reduceLT, Int.reduceEq, Int.reduceToNat, Int.reduceAdd, Int.reduceSub, Int.reduceMul, Int.reduceNeg, reduceCtorEq, Option.bind_some, Option.map_some, List.length_cons, List.length_nil, vcM, List.getElem?_toArray, List.getElem?_cons_zero, List.getElem?_cons_succ])
  cases q with
  | none =>
    have h0 : cs = [] := by
      by_cases h0 : cs.length = 0
      · exact List.eq_nil_of_length_eq_zero h0
      · simp only [rdS] at hr
        rw [if_neg (by omega)] at hr
        cases hr
    subst h0
    (refine W_at c51_ok ?_; refine ⟨_, rfl, ?_⟩; simp (disch := first | omega | assumption | rfl | (simp only [vcS] <;> omega) | fail) only [↓ptV_l, ↓vcA, vcB, ↓vcD, vcE, ↓reduceIte, Nat.reduceEqDiff, Nat.reduceAdd, Nat.reduceMul, Nat.reduceLeDiff, Int.reduceLE, Int.reduceLT, Int.reduceEq, Int.reduceToNat, Int.reduceAdd, Int.reduceSub, Int.reduceMul, Int.reduceNeg, reduceCtorEq, Option.bind_some, Option.map_some, List.length_cons, List.length_nil, vcM, List.getElem?_toArray, List.getElem?_cons_zero, List.getElem?_cons_succ, eqS_none])
    (refine W_at c51_ok ?_; refine ⟨_, rfl, ?_⟩; simp (disch := first | omega | assumption | rfl | (simp only [vcS] <;> omega) | fail) only [↓ptV_l, ↓vcA, vcB, ↓vcD, vcE, ↓reduceIte, Nat.reduceEqDiff, Nat.reduceAdd, Nat.reduceMul, Nat.reduceLeDiff, Int.reduceLE, Int.reduceLT, Int.reduceEq, Int.reduceToNat, Int.reduceAdd, Int.reduceSub, Int.reduceMul, Int.reduceNeg, reduceCtorEq, Option.bind_some, Option.map_some, List.length_cons, List.length_nil, vcM, List.getElem?_toArray, List.getElem?_cons_zero, List.getElem?_cons_succ])
    (refine W_at c51_ok ?_; refine ⟨_, rfl, ?_⟩; simp (disch := first | omega | assumption | rfl | (simp only [vcS] <;> omega) | fail) only [↓ptV_l, ↓vcA, vcB, ↓vcD, vcE, ↓reduceIte, Nat.reduceEqDiff, Nat.reduceAdd, Nat.reduceMul, Nat.reduceLeDiff, Int.reduceLE, Int.reduceLT, Int.reduceEq, Int.reduceToNat, Int.reduceAdd, Int.reduceSub, Int.reduceMul, Int.reduceNeg, reduceCtorEq, Option.bind_some, Option.map_some, List.length_cons, List.length_nil, vcM, List.getElem?_toArray, List.getElem?_cons_zero, List.getElem?_cons_succ])
    (refine W_at c51_ok ?_; refine ⟨_, rfl, ?_⟩; simp (disch := first | omega | assumption | rfl | (simp only [vcS] <;> omega) | fail) only [↓ptV_l, ↓vcA, vcB, ↓vcD, vcE, ↓reduceIte, Nat.reduceEqDiff, Nat.reduceAdd, Nat.reduceMul, Nat.reduceLeDiff, Int.reduceLE, Int.reduceLT, Int.reduceEq, Int.reduceToNat, Int.reduceAdd, Int.reduceSub, Int.reduceMul, Int.reduceNeg, reduceCtorEq, Option.bind_some, Option.map_some, List.length_cons, List.length_nil, vcM, List.getElem?_toArray, List.getElem?_cons_zero, List.getElem?_cons_succ, Ret_returned])
    exact ⟨OwnO.nil _ _ _ _, Keep.refl _ w⟩
  | some a =>
    (refine W_at c51_ok ?_; refine ⟨_, rfl, ?_⟩; simp (disch := first | omega | assumption | rfl | (simp only [vcS] <;> omega) | fail) only [↓ptV_l, ↓vcA, vcB, ↓vcD, vcE, ↓reduceIte, Nat.reduceEqDiff, Nat.reduceAdd, Nat.reduceMul, Nat.reduceLeDiff, Int.reduceLE, Int.reduceLT, Int.reduceEq, Int.reduceToNat, Int.reduceAdd, Int.reduceSub, Int.reduceMul, Int.reduceNeg, reduceCtorEq, Option.bind_some, Option.map_some, List.length_cons, List.length_nil, vcM, List.getElem?_toArray, List.getElem?_cons_zero, List.getElem?_cons_succ, eqS_sn])
    (refine W_at c51_ok ?_; refine ⟨_, rfl, ?_⟩; simp (disch := first | omega | assumption | rfl | (simp only [vcS] <;> omega) | fail) only [↓ptV_l, ↓vcA, vcB, ↓vcD, vcE, ↓reduceIte, Nat.reduceEqDiff, Nat.reduceAdd, Nat.reduceMul, Nat.reduceLeDiff, Int.reduceLE, Int.reduceLT, Int.reduceEq, Int.reduceToNat, Int.reduceAdd, Int.reduceSub, Int.reduceMul, Int.reduceNeg, reduceCtorEq, Option.bind_some, Option.map_some, List.length_cons, List.length_nil, vcM, List.getElem?_toArray, List.getElem?_cons_zero, List.getElem?_cons_succ])
    (refine W_at c51_ok ?_; refine ⟨_, rfl, ?_⟩; simp (disch := first | omega | assumption | rfl | (simp only [vcS] <;> omega) | fail) only [↓ptV_l, ↓vcA, vcB, ↓vcD, vcE, ↓reduceIte, Nat.reduceEqDiff, Nat.reduceAdd, Nat.reduceMul, Nat.reduceLeDiff, Int.reduceLE, Int.reduceLT, Int.reduceEq, Int.reduceToNat, Int.reduceAdd, Int.reduceSub, Int.reduceMul, Int.reduceNeg, reduceCtorEq, Option.bind_some, Option.map_some, List.length_cons, List.length_nil, vcM, List.getElem?_toArray, List.getElem?_cons_zero, List.getElem?_cons_succ])
    have hE : Ext w (w.alloc (.cells [].toArray 27)) := (Keep.refl _ w).alloc _
    have hO : OwnO (w.alloc (.cells [].toArray 27)) w.heap.size 27 1 (.slice (some ⟨w.heap.size, 0, none⟩) 0 0) [] :=
      ⟨fun _ h => (by cases h), .inr ⟨_, 0, 0, _, rfl, Nat.le_refl _, heap_new _ _ _ rfl, Nat.le_refl _, Nat.zero_le _, by simp, by simp⟩⟩
    refine appO4 (ids2 := cs) hO (rdS_keep hr hE fun _ _ h => h) rfl hsz hfl (by simp; omega) (by simp; omega) rfl hE.size (by decide) fun v' w' k1 k2 k3 => ?_
    rw [List.nil_append] at k1
    first | (simp (disch := first | omega | assumption | rfl | (simp only [vcS] <;> omega) | fail) only [↓ptV_l, ↓vcA, vcB, ↓vcD, vcE, ↓reduceIte, Nat.reduceEqDiff, Nat.reduceAdd, Nat.reduceMul, Nat.reduceLeDiff, Int.reduceLE, Int.reduceLT, Int.reduceEq, Int.reduceToNat, Int.reduceAdd, Int.reduceSub, Int.reduceMul, Int.reduceNeg, reduceCtorEq, Option.bind_some, Option.map_some, List.length_cons, List.length_nil, vcM, List.getElem?_toArray, List.getElem?_cons_zero, List.getElem?_cons_succ]) | skip
    (refine W_at c51_ok ?_; refine ⟨_, rfl, ?_⟩; simp (disch := first | omega | assumption | rfl | (simp only [vcS] <;> omega) | fail) only [↓ptV_l, ↓vcA, vcB, ↓vcD, vcE, ↓reduceIte, Nat.reduceEqDiff, Nat.reduceAdd, Nat.reduceMul, Nat.reduceLeDiff, Int.reduceLE, Int.reduceLT, Int.reduceEq, Int.reduceToNat, Int.reduceAdd, Int.reduceSub, Int.reduceMul, Int.reduceNeg, reduceCtorEq, Option.bind_some, Option.map_some, List.length_cons, List.length_nil, vcM, List.getElem?_toArray, List.getElem?_cons_zero, List.getElem?_cons_succ, Ret_returned])
    exact ⟨k1, hE.trans k2 fun i hi e => by have e' : w.heap.size = i := Option.some.inj e; omega⟩
end Go.Proofs
namespace Go.Proofs
open Go.Vc
set_option maxRecDepth 10000

/-- A slice whose first elements are one's own, the rest as they were. -/
def CL {α : Type} (R : World → Array Value → α → Prop) (RN : Nat → World → Array Value → α → Prop) (T size : Nat) (w wj : World) (i : Nat) (v : Value) (l : List α) : Prop :=
  ∃ cs : List (Array Value), cs.length = l.length ∧ OwnO wj w.heap.size T size v cs ∧ ∀ j (h : j < cs.length) (h' : j < l.length), (j < i → RN w.heap.size wj cs[j] l[j]) ∧ (i ≤ j → R w cs[j] l[j])
section
variable {α : Type} {R : World → Array Value → α → Prop} {RN : Nat → World → Array Value → α → Prop} {T size : Nat} {w wj w' : World} {i : Nat} {v : Value} {l : List α}
theorem CL.keepT {S : Nat → Prop} (h : CL R RN T size w wj i v l) (k : Keep S wj w') (hS : ∀ g, S g → ∀ c, wj.heap[g]? ≠ some (.cells c T (0, 0))) (hR : ∀ c x, RN w.heap.size wj c x → RN w.heap.size w' c x) : CL R RN T size w w' i v l := by
  obtain ⟨cs, h1, h2, h3⟩ := h
  exact ⟨cs, h1, h2.keep k fun g hg hs => by obtain ⟨_, c, hc⟩ := h2.blk hg; exact hS g hs c hc, fun j a b => ⟨fun hj => hR _ _ ((h3 j a b).1 hj), (h3 j a b).2⟩⟩
theorem CL.len (h : CL R RN T size w wj i v l) : lenR v = some (.int .i64 (l.length : Nat)) := by
  obtain ⟨cs, h1, h2, _⟩ := h
  rw [h2.len, h1]
theorem CL.one (h : CL R RN T size w wj i v l) : v.oneCell' = true := by
  obtain ⟨cs, h1, h2, _⟩ := h
  exact h2.one
theorem CL.done (h : CL R RN T size w wj i v l) (hi : l.length ≤ i) : ListN RN T size w.heap.size wj v l := by
  obtain ⟨cs, h1, h2, h3⟩ := h
  exact ⟨cs, h1, h2, fun j a b => (h3 j a b).1 (by omega)⟩
theorem CL.start {cs : List (Array Value)} (h1 : cs.length = l.length) (h2 : OwnO wj w.heap.size T size v cs) (h3 : ∀ j (h : j < cs.length) (h' : j < l.length), R w cs[j] l[j]) : CL R RN T size w wj 0 v l :=
  ⟨cs, h1, h2, fun j a b => ⟨fun h => by omega, fun _ => h3 j a b⟩⟩
theorem CL.blkT (h : CL R RN T size w wj i v l) {g : Nat} (hg : blk v g) : w.heap.size ≤ g ∧ ∃ c, wj.heap[g]? = some (.cells c T (0, 0)) := by
  obtain ⟨_, _, h, _⟩ := h
  exact h.blk hg
end
abbrev CI (w wj : World) (i : Nat) (v : Value) (l : List TxI) : Prop := CL InAt InN 50 36 w wj i v l
abbrev CO (w wj : World) (i : Nat) (v : Value) (l : List TxO) : Prop := CL OuAt OuN 54 2 w wj i v l
structure CT (w wj : World) (p1 p2 : Nat) (t : TxV) (vi vo : Value) (i1 i2 : Nat) : Prop where
  ext : Ext w wj
  c1 : wj.heap[p1]? = some (.cells (txC t vi vo) 26 (0, 0))
  c2 : ∃ c, wj.heap[p2]? = some (.cells c 26 (0, 0)) ∧ c.size = 4
  ins : CI w wj i1 vi t.ins
  outs : CO w wj i2 vo t.outs
  l1 : w.heap.size ≤ p1
  l2 : w.heap.size ≤ p2
  ne : p1 ≠ p2
theorem CT.keep {w wj w' : World} {p1 p2 i1 i2 : Nat} {t : TxV} {vi vo : Value} (h : CT w wj p1 p2 t vi vo i1 i2) (k : Ext wj w') : CT w w' p1 p2 t vi vo i1 i2 := by
  obtain ⟨c, h2, h3⟩ := h.c2
  exact ⟨h.ext.ext k, k.at h.c1 (fun h => h), ⟨c, k.at h2 (fun h => h), h3⟩, CL.keepT h.ins k (fun _ h => h.elim) fun _ _ h => h.ext k, CL.keepT h.outs k (fun _ h => h.elim) fun _ _ h => h.ext k, h.l1, h.l2, h.ne⟩
/-- The second phase's step: an output's script is copied. -/
theorem CT.setO {w wj : World} {p1 p2 i1 i : Nat} {t : TxV} {vi vo : Value} (h : CT w wj p1 p2 t vi vo i1 i) {g o n cap : Nat} (he : vo = .slice (some ⟨g, o, none⟩) n cap) (hi : i < t.outs.length) {u : Value} (hu : N1 w.heap.size wj u t.outs[i].script) :
    wr1 wj g (o + i * 2 + 1) ∧ CT w (wj.setCell ⟨g, o + i * 2 + 1, none⟩ u) p1 p2 t vi vo i1 (i + 1) := by
  have hk : Keep (fun y => y = g) wj (wj.setCell ⟨g, o + i * 2 + 1, none⟩ u) := (Keep.refl _ wj).setCell _ fun _ => rfl
  obtain ⟨hm, cur, hg⟩ := CL.blkT h.outs (g := g) (by rw [he]; rfl)
  have n5 := ne_T (T' := 5) hg (by decide)
  have n26 := ne_T (T' := 26) hg (by decide)
  have n27 := ne_T (T' := 27) hg (by decide)
  have n50 := ne_T (T' := 50) hg (by decide)
  obtain ⟨c, h2, h3⟩ := h.c2
  obtain ⟨ds, b1, b2, b3⟩ := h.outs
  obtain ⟨g', o', cap', e, hb, hw, hO⟩ := b2.setc (e := i) (j := 1) (by omega) (by decide) u
  rw [he] at e
  injection e with e1 e2 e3
  injection e1 with e1
  injection e1 with e4 e5
  subst e4 e5
  refine ⟨hw, h.ext.trans hk fun y hy e => by omega, hk.at h.c1 fun e => n26 _ (e ▸ h.c1), ⟨c, hk.at h2 fun e => n26 _ (e ▸ h2), h3⟩, CL.keepT h.ins hk (fun g' hg' c => by subst hg'; exact n50 c) fun _ _ hR => hR.keepT hk fun g' hg' c => by subst hg'; exact ⟨n5 c, n27 c⟩,
    ⟨_, by rw [List.length_set]; exact b1, hO, fun j a b => ?_⟩, h.l1, h.l2, h.ne⟩
  rw [List.length_set] at a
  by_cases hj : i = j
  · subst hj
    rw [List.getElem_set_self]
    refine ⟨fun _ => ?_, fun h => by omega⟩
    obtain ⟨sv, e, _⟩ := (b3 i a b).2 (Nat.le_refl _)
    exact ⟨u, by rw [e]; rfl, hu.keepT hk fun g' hg' c => by subst hg'; exact n5 c⟩
  · rw [List.getElem_set_ne hj]
    exact ⟨fun hji => ((b3 j a b).1 (by omega)).keepT hk fun g' hg' c => by subst hg'; exact n5 c, fun hji => (b3 j a b).2 (by omega)⟩
theorem CL.at {α : Type} {R : World → Array Value → α → Prop} {RN : Nat → World → Array Value → α → Prop} {T size : Nat} {w wj : World} {i : Nat} {v : Value} {l : List α} (h : CL R RN T size w wj i v l) (hi : i < l.length) :
    ∃ g o cap c, v = .slice (some ⟨g, o, none⟩) l.length cap ∧ rdO wj.heap[g]? (o + i * size) size = some c ∧ R w c l[i] := by
  obtain ⟨cs, h1, h2, h3⟩ := h
  obtain ⟨g, o, cap, cur, e, hg, hr⟩ := h2.at (j := i) (by omega)
  rw [h1] at e
  exact ⟨g, o, cap, cs[i], e, hr, (h3 i (by omega) hi).2 (Nat.le_refl _)⟩
set_option maxHeartbeats 1600000 in
theorem clone_outs (w : World) (p1 p2 : Nat) (t : TxV) (iv0 ov0 : Value) (hz : ∀ y ∈ t.outs, y.script.length ≤ 1000000) (hlo : t.outs.length ≤ 100000) (vi vo : Value) :
    ∀ (k i : Nat) (wj : World) (tl : Env), k + i = t.outs.length → CT w wj p1 p2 t vi vo t.ins.length i →
      W Try.prog (Ret fun u w' => ∃ iv' ov', u = .agg (txC t iv' ov') ∧ InsN w.heap.size w' iv' t.ins ∧ OusN w.heap.size w' ov' t.outs ∧ Ext w w') 25 8 ((1, .pointer (some ⟨p1, 0, none⟩)) :: (2, .pointer (some ⟨p2, 0, none⟩)) :: (67, .int .i64 (t.outs.length : Nat)) :: (68, .int .i64 (i : Nat)) :: tl) wj := by
  intro k
  induction k with
  | zero =>
    intro i wj tl hi hP
    have hil : ¬ ((i : Int) < (t.outs.length : Nat)) := by omega
    have d1 := hP.c1
    obtain ⟨cc, d2, hcc⟩ := hP.c2
    have r4 : rdO (some (.cells (txC t vi vo) 26 (0, 0))) 0 4 = some (txC t vi vo) := rdO_all _ _ _ _ rfl
    have z4 := txC_sz t vi vo
    have o4 : okO (some (.cells cc 26 (0, 0))) 0 4 = True := by simp only [okO, hcc]; simp
    have hI := CL.done hP.ins (Nat.le_refl _)
    have hO := CL.done hP.outs (by omega)
    (refine W_at c25_ok ?_; refine ⟨_, rfl, ?_⟩; simp (disch := first | omega | assumption | rfl | (simp only [vcS] <;> omega) | fail) only [↓ptV_l, ↓vcA, vcB, ↓vcD, vcE, ↓reduceIte, Nat.reduceEqDiff, Nat.reduceAdd, Nat.reduceMul, Nat.reduceLeDiff, Int.reduceLE, Int.reduceLT, Int.reduceEq, Int.reduceToNat, Int.reduceAdd, Int.reduceSub, Int.reduceMul, Int.reduceNeg, reduceCtorEq, Option.bind_some, Option.map_some, List.length_cons, List.length_nil, vcM, List.getElem?_toArray, List.getElem?_cons_zero, List.getElem?_cons_succ, hil])
    (refine W_at c25_ok ?_; refine ⟨_, rfl, ?_⟩; simp (disch := first | omega | assumption | rfl | (simp only [vcS] <;> omega) | fail) only [↓ptV_l, ↓vcA, vcB, ↓vcD, vcE, ↓reduceIte, Nat.reduceEqDiff, Nat.reduceAdd, Nat.reduceMul, Nat.reduceLeDiff, Int.reduceLE, Int.reduceLT, Int.reduceEq, Int.reduceToNat, Int.reduceAdd, Int.reduceSub, Int.reduceMul, Int.reduceNeg, reduceCtorEq, Option.bind_some, Option.map_some, List.length_cons, List.length_nil, vcM, List.getElem?_toArray, List.getElem?_cons_zero, List.getElem?_cons_succ])
    (refine W_at c25_ok ?_; refine ⟨_, rfl, ?_⟩; simp (disch := first | omega | assumption | rfl | (simp only [vcS] <;> omega) | fail) only [↓ptV_l, ↓vcA, vcB, ↓vcD, vcE, ↓reduceIte, Nat.reduceEqDiff, Nat.reduceAdd, Nat.reduceMul, Nat.reduceLeDiff, Int.reduceLE, Int.reduceLT, Int.reduceEq, Int.reduceToNat, Int.reduceAdd, Int.reduceSub, Int.reduceMul, Int.reduceNeg, reduceCtorEq, Option.bind_some, Option.map_some, List.length_cons, List.length_nil, vcM, List.getElem?_toArray, List.getElem?_cons_zero, List.getElem?_cons_succ, d1, r4, z4, d2, o4])
    have hfl : flat (txC t vi vo) := by
      have a1 := ListN.one hI
      have a2 := ListN.one hO
      intro y hy; simp only [txC, List.mem_toArray, List.mem_cons, List.not_mem_nil, or_false] at hy; rcases hy with rfl | rfl | rfl | rfl <;> first | rfl | assumption
    refine ⟨hfl, ?_⟩
    have hk : Keep (fun g => g = p2) wj (wj.putN p2 0 (txC t vi vo)) := (Keep.refl _ wj).putN _ fun _ => rfl
    have d9 : (wj.putN p2 0 (txC t vi vo)).heap[p2]? = some (.cells (txC t vi vo) 26 (0, 0)) := by
      rw [heap_putN_eq d2, splice_all (by rw [hcc, txC_sz])]
    have l2 := hP.l2
    (refine W_at c25_ok ?_; refine ⟨_, rfl, ?_⟩; simp (disch := first | omega | assumption | rfl | (simp only [vcS] <;> omega) | fail) only [↓ptV_l, ↓vcA, vcB, ↓vcD, vcE, ↓reduceIte, Nat.reduceEqDiff, Nat.reduceAdd, Nat.reduceMul, Nat.reduceLeDiff, Int.reduceLE, Int.reduceLT, Int.reduceEq, Int.reduceToNat, Int.reduceAdd, Int.reduceSub, Int.reduceMul, Int.reduceNeg, reduceCtorEq, Option.bind_some, Option.map_some, List.length_cons, List.length_nil, vcM, List.getElem?_toArray, List.getElem?_cons_zero, List.getElem?_cons_succ, d9, r4, Ret_returned])
    exact ⟨vi, vo, rfl, InsN.setT hI hk d2 (by decide) (by decide) (by decide), OusN.setT hO hk d2 (by decide) (by decide), hP.ext.trans hk fun g hg e => by omega⟩
  | succ k ih =>
    intro i wj tl hi hP
    have hi0 : i < t.outs.length := by omega
    have hil : ((i : Int) < (t.outs.length : Nat)) := by omega
    have c3 : 0 ≤ (i : Int) ∧ (i : Int) < (t.outs.length : Nat) := by omega
    have d1 := hP.c1
    obtain ⟨g, o, cap, c, hvo, hrd, sv, rfl, hsv⟩ := CL.at hP.outs hi0
    have q1 := rdO_cell hrd (j := 1) (by omega)
    have q1' : (oC t.outs[i] sv)[1]? = some sv := rfl
    rw [q1'] at q1
    (refine W_at c25_ok ?_; refine ⟨_, rfl, ?_⟩; simp (disch := first | omega | assumption | rfl | (simp only [vcS] <;> omega) | fail) only [↓ptV_l, ↓vcA, vcB, ↓vcD, vcE, ↓reduceIte, Nat.reduceEqDiff, Nat.reduceAdd, Nat.reduceMul, Nat.reduceLeDiff, Int.reduceLE, Int.reduceLT, Int.reduceEq, Int.reduceToNat, Int.reduceAdd, Int.reduceSub, Int.reduceMul, Int.reduceNeg, reduceCtorEq, Option.bind_some, Option.map_some, List.length_cons, List.length_nil, vcM, List.getElem?_toArray, List.getElem?_cons_zero, List.getElem?_cons_succ, hil])
    (refine W_at c25_ok ?_; refine ⟨_, rfl, ?_⟩; simp (disch := first | omega | assumption | rfl | (simp only [vcS] <;> omega) | fail) only [↓ptV_l, ↓vcA, vcB, ↓vcD, vcE, ↓reduceIte, Nat.reduceEqDiff, Nat.reduceAdd, Nat.reduceMul, Nat.reduceLeDiff, Int.reduceLE, Int.reduceLT, Int.reduceEq, Int.reduceToNat, Int.reduceAdd, Int.reduceSub, Int.reduceMul, Int.reduceNeg, reduceCtorEq, Option.bind_some, Option.map_some, List.length_cons, List.length_nil, vcM, List.getElem?_toArray, List.getElem?_cons_zero, List.getElem?_cons_succ])
    (refine W_at c25_ok ?_; refine ⟨_, rfl, ?_⟩; simp (disch := first | omega | assumption | rfl | (simp only [vcS] <;> omega) | fail) only [↓ptV_l, ↓vcA, vcB, ↓vcD, vcE, ↓reduceIte, Nat.reduceEqDiff, Nat.reduceAdd, Nat.reduceMul, Nat.reduceLeDiff, Int.reduceLE, Int.reduceLT, Int.reduceEq, Int.reduceToNat, Int.reduceAdd, Int.reduceSub, Int.reduceMul, Int.reduceNeg, reduceCtorEq, Option.bind_some, Option.map_some, List.length_cons, List.length_nil, vcM, List.getElem?_toArray, List.getElem?_cons_zero, List.getElem?_cons_succ])
    (refine W_at c25_ok ?_; refine ⟨_, rfl, ?_⟩; simp (disch := first | omega | assumption | rfl | (simp only [vcS] <;> omega) | fail) only [↓ptV_l, ↓vcA, vcB, ↓vcD, vcE, ↓reduceIte, Nat.reduceEqDiff, Nat.reduceAdd, Nat.reduceMul, Nat.reduceLeDiff, Int.reduceLE, Int.reduceLT, Int.reduceEq, Int.reduceToNat, Int.reduceAdd, Int.reduceSub, Int.reduceMul, Int.reduceNeg, reduceCtorEq, Option.bind_some, Option.map_some, List.length_cons, List.length_nil, vcM, List.getElem?_toArray, List.getElem?_cons_zero, List.getElem?_cons_succ, d1, txC_2, hvo, c3, Int.toNat_natCast, q1])
    have hEd : Ext wj wj.drew := (Keep.refl _ wj).drew
    refine callV_ret (clone_ok wj.drew sv _ ((hsv.ext hP.ext).ext hEd) (by have := hz _ (List.getElem_mem hi0); omega)) ?_
    rintro u w6 ⟨hu1, hu2, hu3⟩
    have hE6 : Ext wj w6 := hEd.ext hu2
    have d16 := hE6.at d1 (fun h => h)
    first | (simp (disch := first | omega | assumption | rfl | (simp only [vcS] <;> omega) | fail) only [↓ptV_l, ↓vcA, vcB, ↓vcD, vcE, ↓reduceIte, Nat.reduceEqDiff, Nat.reduceAdd, Nat.reduceMul, Nat.reduceLeDiff, Int.reduceLE, Int.reduceLT, Int.reduceEq, Int.reduceToNat, Int.reduceAdd, Int.reduceSub, Int.reduceMul, Int.reduceNeg, reduceCtorEq, Option.bind_some, Option.map_some, List.length_cons, List.length_nil, vcM, List.getElem?_toArray, List.getElem?_cons_zero, List.getElem?_cons_succ, d16, txC_2, hvo]) | skip
    have hP6 := hP.keep hE6
    have hms := hP.ext.size
    obtain ⟨hw, hP7⟩ := hP6.setO hvo hi0 (u := u) ⟨hu1, fun g hg => Nat.le_trans (hP.keep hEd).ext.size (hu3 g hg)⟩
    have wi : IntKind.i64.wrap ((i : Int) + 1) = ((i + 1 : Nat) : Int) := wrap_i64 (by omega) (by omega)
    refine ⟨hu1.rd.one, hw, ?_⟩
    (refine W_at c25_ok ?_; refine ⟨_, rfl, ?_⟩; simp (disch := first | omega | assumption | rfl | (simp only [vcS] <;> omega) | fail) only [↓ptV_l, ↓vcA, vcB, ↓vcD, vcE, ↓reduceIte, Nat.reduceEqDiff, Nat.reduceAdd, Nat.reduceMul, Nat.reduceLeDiff, Int.reduceLE, Int.reduceLT, Int.reduceEq, Int.reduceToNat, Int.reduceAdd, Int.reduceSub, Int.reduceMul, Int.reduceNeg, reduceCtorEq, Option.bind_some, Option.map_some, List.length_cons, List.length_nil, vcM, List.getElem?_toArray, List.getElem?_cons_zero, List.getElem?_cons_succ, wi])
    (refine W_at c25_ok ?_; refine ⟨_, rfl, ?_⟩; simp (disch := first | omega | assumption | rfl | (simp only [vcS] <;> omega) | fail) only [↓ptV_l, ↓vcA, vcB, ↓vcD, vcE, ↓reduceIte, Nat.reduceEqDiff, Nat.reduceAdd, Nat.reduceMul, Nat.reduceLeDiff, Int.reduceLE, Int.reduceLT, Int.reduceEq, Int.reduceToNat, Int.reduceAdd, Int.reduceSub, Int.reduceMul, Int.reduceNeg, reduceCtorEq, Option.bind_some, Option.map_some, List.length_cons, List.length_nil, vcM, List.getElem?_toArray, List.getElem?_cons_zero, List.getElem?_cons_succ])
    exact ih (i + 1) _ _ (by omega) hP7
/-- One input's rows, the first of them copied. -/
structure RS (w wF wj : World) (g : Nat) (vi : Value) (cs : List (Array Value)) (u1 u2 : Value) (x : TxI) (kk : Nat) : Prop where
  k0 : Keep (fun y => y = g) wF wj
  arr : OwnO wj w.heap.size 50 36 vi cs
  s1 : N1 w.heap.size wj u1 x.script
  rows : ∃ vs : List Value, OwnO wj wF.heap.size 27 1 u2 (vs.map fun v => #[v]) ∧ vs.length = x.wit.length ∧ ∀ j (h : j < vs.length) (h' : j < x.wit.length), (j < kk → N1 w.heap.size wj vs[j] x.wit[j]) ∧ (kk ≤ j → Rd w vs[j] x.wit[j])
theorem RS.keep {w wF wj w' : World} {g : Nat} {vi : Value} {cs : List (Array Value)} {u1 u2 : Value} {x : TxI} {kk : Nat} (h : RS w wF wj g vi cs u1 u2 x kk) (k : Ext wj w') : RS w wF w' g vi cs u1 u2 x kk := by
  obtain ⟨vs, h1, h2, h3⟩ := h.rows
  exact ⟨h.k0.ext k, h.arr.ext k, h.s1.ext k, vs, h1.ext k, h2, fun j a b => ⟨fun hj => ((h3 j a b).1 hj).ext k, (h3 j a b).2⟩⟩
theorem RS.step {w wF wj : World} {g : Nat} {vi : Value} {cs : List (Array Value)} {u1 u2 u3 : Value} {x : TxI} {kk : Nat} (h : RS w wF wj g vi cs u1 u2 x kk) (hk : kk < x.wit.length) (hu : N1 w.heap.size wj u3 x.wit[kk]) {gw ow n cap : Nat} (he : u2 = .slice (some ⟨gw, ow, none⟩) n cap) :
    wr1 wj gw (ow + kk) ∧ RS w wF (wj.setCell ⟨gw, ow + kk, none⟩ u3) g vi cs u1 u2 x (kk + 1) := by
  obtain ⟨vs, h1, h2, h3⟩ := h.rows
  obtain ⟨g', o', cap', e, hb, hw, hO⟩ := h1.setc (e := kk) (j := 0) (by rw [List.length_map]; omega) (by decide) u3
  rw [he] at e
  injection e with e1 e2 e3
  injection e1 with e1
  injection e1 with e4 e5
  subst e4 e5
  rw [Nat.mul_one, Nat.add_zero] at hw hO
  obtain ⟨hm, cur, hg⟩ := h1.blk (g := gw) (by rw [he]; rfl)
  have n5 := ne_T (T' := 5) hg (by decide)
  have n50 := ne_T (T' := 50) hg (by decide)
  have k2 : Keep (fun y => y = gw) wj (wj.setCell ⟨gw, ow + kk, none⟩ u3) := (Keep.refl _ wj).setCell _ fun _ => rfl
  have hvk : kk < vs.length := by omega
  refine ⟨hw, h.k0.trans k2 fun y hy e => by omega, h.arr.keep k2 fun y hy e => by obtain ⟨_, c, hc⟩ := h.arr.blk hy; subst e; exact n50 c hc, h.s1.keepT k2 fun y hy c => by subst hy; exact n5 c, vs.set kk u3, ?_, by rw [List.length_set]; exact h2, fun j a b => ?_⟩
  · have e : (vs.map fun v => (#[v] : Array Value)).set kk (((vs.map fun v => (#[v] : Array Value))[kk]'(by rw [List.length_map]; exact hvk)).setIfInBounds 0 u3) = (vs.set kk u3).map fun v => #[v] := by
      rw [List.map_set, List.getElem_map]; rfl
    rw [e] at hO
    exact hO
  · rw [List.length_set] at a
    by_cases hj : kk = j
    · subst hj
      rw [List.getElem_set_self]
      exact ⟨fun _ => hu.keepT k2 fun y hy c => by subst hy; exact n5 c, fun h => by omega⟩
    · rw [List.getElem_set_ne hj]
      exact ⟨fun hjk => ((h3 j a b).1 (by omega)).keepT k2 fun y hy c => by subst hy; exact n5 c, fun hjk => (h3 j a b).2 (by omega)⟩
theorem RS.done {w wF wj : World} {p1 p2 i : Nat} {t : TxV} {vi vo : Value} {g o n cap : Nat} {cs : List (Array Value)} {u1 u2 : Value} (hF : CT w wF p1 p2 t vi vo i 0) (he : vi = .slice (some ⟨g, o, none⟩) n cap) (hi : i < t.ins.length)
    (b1 : cs.length = t.ins.length) (b3 : ∀ j (h : j < cs.length) (h' : j < t.ins.length), (j < i → InN w.heap.size wF cs[j] t.ins[j]) ∧ (i ≤ j → InAt w cs[j] t.ins[j]))
    (h : RS w wF wj g vi (cs.set i (iC t.ins[i] u1 u2)) u1 u2 t.ins[i] t.ins[i].wit.length) : CT w wj p1 p2 t vi vo (i + 1) 0 := by
  obtain ⟨hm, cur, hg⟩ := CL.blkT hF.ins (g := g) (by rw [he]; rfl)
  have n5 := ne_T (T' := 5) hg (by decide)
  have n26 := ne_T (T' := 26) hg (by decide)
  have n27 := ne_T (T' := 27) hg (by decide)
  have n54 := ne_T (T' := 54) hg (by decide)
  obtain ⟨c, h2, h3⟩ := hF.c2
  obtain ⟨vs, r1, r2, r3⟩ := h.rows
  have hk := h.k0
  refine ⟨hF.ext.trans hk fun y hy e => by omega, hk.at hF.c1 fun e => n26 _ (e ▸ hF.c1), ⟨c, hk.at h2 fun e => n26 _ (e ▸ h2), h3⟩, ⟨_, by rw [List.length_set]; exact b1, h.arr, fun j a b => ?_⟩,
    CL.keepT hF.outs hk (fun g' hg' c => by subst hg'; exact n54 c) fun _ _ hR => hR.keepT hk fun g' hg' c => by subst hg'; exact n5 c, hF.l1, hF.l2, hF.ne⟩
  rw [List.length_set] at a
  by_cases hj : i = j
  · subst hj
    rw [List.getElem_set_self]
    exact ⟨fun _ => ⟨u1, u2, rfl, h.s1, vs, r1.base hF.ext.size, r2, fun j a b => (r3 j a b).1 b⟩, fun h => by omega⟩
  · rw [List.getElem_set_ne hj]
    exact ⟨fun hji => ((b3 j a b).1 (by omega)).keepT hk fun g' hg' c => by subst hg'; exact ⟨n5 c, n27 c⟩, fun hji => (b3 j a b).2 (by omega)⟩
end Go.Proofs
namespace Go.Proofs
open Go.Vc
set_option maxRecDepth 10000

set_option maxHeartbeats 1600000 in
theorem clone_rows (Q : Ending → World → Prop) (w wF : World) (p1 p2 : Nat) (g o cap i ni : Nat) (vi : Value) (cs : List (Array Value)) (hcs : cs.length = ni) (hi : i < ni) (hvi : vi = .slice (some ⟨g, o, none⟩) ni cap) (x : TxI) (hx : x.prev.length = 32) (u1 u2 : Value) (hwl : ∀ p ∈ x.wit, p.length ≤ 140737488355328) (hwn : x.wit.length * 24 ≤ 140737488355328) (hEF : Ext w wF) (hgm : w.heap.size ≤ g)
    (hdone : ∀ wj tl, RS w wF wj g vi (cs.set i (iC x u1 u2)) u1 u2 x x.wit.length → W Try.prog Q 25 11 ((1, .pointer (some ⟨p1, 0, none⟩)) :: (2, .pointer (some ⟨p2, 0, none⟩)) :: (4, .pointer (some ⟨g, o + i * 36, none⟩)) :: (17, .int .i64 (ni : Nat)) :: (18, .int .i64 (i : Nat)) :: tl) wj) :
    ∀ (k j : Nat) (wj : World) (tl : Env), k + j = x.wit.length → RS w wF wj g vi (cs.set i (iC x u1 u2)) u1 u2 x j →
      W Try.prog Q 25 17 ((1, .pointer (some ⟨p1, 0, none⟩)) :: (2, .pointer (some ⟨p2, 0, none⟩)) :: (4, .pointer (some ⟨g, o + i * 36, none⟩)) :: (17, .int .i64 (ni : Nat)) :: (18, .int .i64 (i : Nat)) :: (45, .int .i64 (x.wit.length : Nat)) :: (46, .int .i64 (j : Nat)) :: tl) wj := by
  intro k
  induction k with
  | zero =>
    intro j wj tl hj hP
    have hil : ¬ ((j : Int) < (x.wit.length : Nat)) := by omega
    obtain rfl : j = x.wit.length := by omega
    (refine W_at c25_ok ?_; refine ⟨_, rfl, ?_⟩; simp (disch := first | omega | assumption | rfl | (simp only [vcS] <;> omega) | fail) only [↓ptV_l, ↓vcA, vcB, ↓vcD, vcE, ↓reduceIte, Nat.reduceEqDiff, Nat.reduceAdd, Nat.reduceMul, Nat.reduceLeDiff, Int.reduceLE, Int.reduceLT, Int.reduceEq, Int.reduceToNat, Int.reduceAdd, Int.reduceSub, Int.reduceMul, Int.reduceNeg, reduceCtorEq, Option.bind_some, Option.map_some, List.length_cons, List.length_nil, vcM, List.getElem?_toArray, List.getElem?_cons_zero, List.getElem?_cons_succ, hil])
    (refine W_at c25_ok ?_; refine ⟨_, rfl, ?_⟩; simp (disch := first | omega | assumption | rfl | (simp only [vcS] <;> omega) | fail) only [↓ptV_l, ↓vcA, vcB, ↓vcD, vcE, ↓reduceIte, Nat.reduceEqDiff, Nat.reduceAdd, Nat.reduceMul, Nat.reduceLeDiff, Int.reduceLE, Int.reduceLT, Int.reduceEq, Int.reduceToNat, Int.reduceAdd, Int.reduceSub, Int.reduceMul, Int.reduceNeg, reduceCtorEq, Option.bind_some, Option.map_some, List.length_cons, List.length_nil, vcM, List.getElem?_toArray, List.getElem?_cons_zero, List.getElem?_cons_succ])
    exact hdone wj _ hP
  | succ k ih =>
    intro j wj tl hj hP
    have hil : ((j : Int) < (x.wit.length : Nat)) := by omega
    have hj0 : j < x.wit.length := by omega
    have wi : IntKind.i64.wrap ((j : Int) + 1) = ((j + 1 : Nat) : Int) := wrap_i64 (by omega) (by omega)
    obtain ⟨vs, r1, r2, r3⟩ := hP.rows
    have hlm : (vs.map fun v => (#[v] : Array Value)).length = x.wit.length := by rw [List.length_map]; exact r2
    obtain ⟨gw, ow, capw, curw, e2, hgw, hrw⟩ := r1.at (j := j) (by omega)
    rw [hlm] at e2
    have qc := rdO_cell hrw (j := 0) (by omega)
    rw [Nat.mul_one, Nat.add_zero, List.getElem_map] at qc
    have qc' : cellO wj.heap[gw]? (ow + j) = some vs[j] := qc
    have hrd := (r3 j (by omega) hj0).2 (Nat.le_refl _)
    have hwE : Keep (fun y => y = g) w wj := (hEF.mono fun _ h => h.elim).trans hP.k0 fun y hy e => e
    have hrdj : Rd wj vs[j] x.wit[j] := hrd.keep0 hwE fun h0 q n c e e' => by have := hrd.lt h0 q n c e; omega
    have harr := hP.arr.at (j := i) (by rw [List.length_set]; omega)
    obtain ⟨ga, oa, capa, cura, ea, hga, hra⟩ := harr
    rw [List.getElem_set_self] at hra
    have hra0 : rdO wj.heap[g]? (o + i * 36) 36 = some (iC x u1 u2) := by
      rw [hvi] at ea
      injection ea with e5 e6 e7
      injection e5 with e5
      injection e5 with e8 e9
      rw [e8, e9]; exact hra
    have qw := rdO_cell hra0 (j := 35) (by omega)
    rw [iC_35 hx] at qw
    have c4 : 0 ≤ (j : Int) ∧ (j : Int) < (x.wit.length : Nat) := by omega
    have hEd : Ext wj wj.drew := (Keep.refl _ wj).drew
    (refine W_at c25_ok ?_; refine ⟨_, rfl, ?_⟩; simp (disch := first | omega | assumption | rfl | (simp only [vcS] <;> omega) | fail) only [↓ptV_l, ↓vcA, vcB, ↓vcD, vcE, ↓reduceIte, Nat.reduceEqDiff, Nat.reduceAdd, Nat.reduceMul, Nat.reduceLeDiff, Int.reduceLE, Int.reduceLT, Int.reduceEq, Int.reduceToNat, Int.reduceAdd, Int.reduceSub, Int.reduceMul, Int.reduceNeg, reduceCtorEq, Option.bind_some, Option.map_some, List.length_cons, List.length_nil, vcM, List.getElem?_toArray, List.getElem?_cons_zero, List.getElem?_cons_succ, hil])
    (refine W_at c25_ok ?_; refine ⟨_, rfl, ?_⟩; simp (disch := first | omega | assumption | rfl | (simp only [vcS] <;> omega) | fail) only [↓ptV_l, ↓vcA, vcB, ↓vcD, vcE, ↓reduceIte, Nat.reduceEqDiff, Nat.reduceAdd, Nat.reduceMul, Nat.reduceLeDiff, Int.reduceLE, Int.reduceLT, Int.reduceEq, Int.reduceToNat, Int.reduceAdd, Int.reduceSub, Int.reduceMul, Int.reduceNeg, reduceCtorEq, Option.bind_some, Option.map_some, List.length_cons, List.length_nil, vcM, List.getElem?_toArray, List.getElem?_cons_zero, List.getElem?_cons_succ])
    (refine W_at c25_ok ?_; refine ⟨_, rfl, ?_⟩; simp (disch := first | omega | assumption | rfl | (simp only [vcS] <;> omega) | fail) only [↓ptV_l, ↓vcA, vcB, ↓vcD, vcE, ↓reduceIte, Nat.reduceEqDiff, Nat.reduceAdd, Nat.reduceMul, Nat.reduceLeDiff, Int.reduceLE, Int.reduceLT, Int.reduceEq, Int.reduceToNat, Int.reduceAdd, Int.reduceSub, Int.reduceMul, Int.reduceNeg, reduceCtorEq, Option.bind_some, Option.map_some, List.length_cons, List.length_nil, vcM, List.getElem?_toArray, List.getElem?_cons_zero, List.getElem?_cons_succ])
    (refine W_at c25_ok ?_; refine ⟨_, rfl, ?_⟩; simp (disch := first | omega | assumption | rfl | (simp only [vcS] <;> omega) | fail) only [↓ptV_l, ↓vcA, vcB, ↓vcD, vcE, ↓reduceIte, Nat.reduceEqDiff, Nat.reduceAdd, Nat.reduceMul, Nat.reduceLeDiff, Int.reduceLE, Int.reduceLT, Int.reduceEq, Int.reduceToNat, Int.reduceAdd, Int.reduceSub, Int.reduceMul, Int.reduceNeg, reduceCtorEq, Option.bind_some, Option.map_some, List.length_cons, List.length_nil, vcM, List.getElem?_toArray, List.getElem?_cons_zero, List.getElem?_cons_succ, qw, e2, c4, Int.toNat_natCast, Nat.mul_one, qc'])
    refine callV_ret (clone4_ok wj.drew vs[j] _ (hrdj.ext hEd) (hwl _ (List.getElem_mem hj0))) ?_
    rintro u w6 ⟨hu1, hu2, hu3⟩
    have hE6 : Ext wj w6 := hEd.ext hu2
    have qw6 := cell_ext qw hE6
    have hP6 := hP.keep hE6
    have hsz6 : w.heap.size ≤ wj.drew.heap.size := Nat.le_trans hEF.size (hP.k0.ext hEd).size
    obtain ⟨hw, hP7⟩ := hP6.step hj0 (u3 := u) ⟨hu1, fun g hg => Nat.le_trans hsz6 (hu3 g hg)⟩ e2
    first | (simp (disch := first | omega | assumption | rfl | (simp only [vcS] <;> omega) | fail) only [↓ptV_l, ↓vcA, vcB, ↓vcD, vcE, ↓reduceIte, Nat.reduceEqDiff, Nat.reduceAdd, Nat.reduceMul, Nat.reduceLeDiff, Int.reduceLE, Int.reduceLT, Int.reduceEq, Int.reduceToNat, Int.reduceAdd, Int.reduceSub, Int.reduceMul, Int.reduceNeg, reduceCtorEq, Option.bind_some, Option.map_some, List.length_cons, List.length_nil, vcM, List.getElem?_toArray, List.getElem?_cons_zero, List.getElem?_cons_succ, qw6, e2]) | skip
    refine ⟨hu1.rd.one, hw, ?_⟩
    (refine W_at c25_ok ?_; refine ⟨_, rfl, ?_⟩; simp (disch := first | omega | assumption | rfl | (simp only [vcS] <;> omega) | fail) only [↓ptV_l, ↓vcA, vcB, ↓vcD, vcE, ↓reduceIte, Nat.reduceEqDiff, Nat.reduceAdd, Nat.reduceMul, Nat.reduceLeDiff, Int.reduceLE, Int.reduceLT, Int.reduceEq, Int.reduceToNat, Int.reduceAdd, Int.reduceSub, Int.reduceMul, Int.reduceNeg, reduceCtorEq, Option.bind_some, Option.map_some, List.length_cons, List.length_nil, vcM, List.getElem?_toArray, List.getElem?_cons_zero, List.getElem?_cons_succ, wi])
    (refine W_at c25_ok ?_; refine ⟨_, rfl, ?_⟩; simp (disch := first | omega | assumption | rfl | (simp only [vcS] <;> omega) | fail) only [↓ptV_l, ↓vcA, vcB, ↓vcD, vcE, ↓reduceIte, Nat.reduceEqDiff, Nat.reduceAdd, Nat.reduceMul, Nat.reduceLeDiff, Int.reduceLE, Int.reduceLT, Int.reduceEq, Int.reduceToNat, Int.reduceAdd, Int.reduceSub, Int.reduceMul, Int.reduceNeg, reduceCtorEq, Option.bind_some, Option.map_some, List.length_cons, List.length_nil, vcM, List.getElem?_toArray, List.getElem?_cons_zero, List.getElem?_cons_succ])
    exact ih (j + 1) _ _ (by omega) hP7
structure TxV.Sm (t : TxV) : Prop where
  ins : t.ins.length ≤ 100000
  outs : t.outs.length ≤ 100000
  inp : ∀ x ∈ t.ins, x.script.length ≤ 1000000 ∧ x.wit.length * 24 ≤ 140737488355328 ∧ ∀ p ∈ x.wit, p.length ≤ 140737488355328
  out : ∀ y ∈ t.outs, y.script.length ≤ 1000000
set_option maxHeartbeats 3200000 in
theorem clone_ins (w : World) (p1 p2 : Nat) (t : TxV) (hok : t.Ok) (hs : t.Sm) (vi vo : Value) :
    ∀ (k i : Nat) (wj : World) (tl : Env), k + i = t.ins.length → CT w wj p1 p2 t vi vo i 0 →
      W Try.prog (Ret fun u w' => ∃ iv' ov', u = .agg (txC t iv' ov') ∧ InsN w.heap.size w' iv' t.ins ∧ OusN w.heap.size w' ov' t.outs ∧ Ext w w') 25 23 ((1, .pointer (some ⟨p1, 0, none⟩)) :: (2, .pointer (some ⟨p2, 0, none⟩)) :: (17, .int .i64 (t.ins.length : Nat)) :: (18, .int .i64 (i : Nat)) :: tl) wj := by
  intro k
  induction k with
  | zero =>
    intro i wj tl hi hP
    have hil : ¬ ((i : Int) < (t.ins.length : Nat)) := by omega
    obtain rfl : i = t.ins.length := by omega
    have d1 := hP.c1
    have hlen := CL.len hP.outs
    (refine W_at c25_ok ?_; refine ⟨_, rfl, ?_⟩; simp (disch := first | omega | assumption | rfl | (simp only [vcS] <;> omega) | fail) only [↓ptV_l, ↓vcA, vcB, ↓vcD, vcE, ↓reduceIte, Nat.reduceEqDiff, Nat.reduceAdd, Nat.reduceMul, Nat.reduceLeDiff, Int.reduceLE, Int.reduceLT, Int.reduceEq, Int.reduceToNat, Int.reduceAdd, Int.reduceSub, Int.reduceMul, Int.reduceNeg, reduceCtorEq, Option.bind_some, Option.map_some, List.length_cons, List.length_nil, vcM, List.getElem?_toArray, List.getElem?_cons_zero, List.getElem?_cons_succ, hil])
    (refine W_at c25_ok ?_; refine ⟨_, rfl, ?_⟩; simp (disch := first | omega | assumption | rfl | (simp only [vcS] <;> omega) | fail) only [↓ptV_l, ↓vcA, vcB, ↓vcD, vcE, ↓reduceIte, Nat.reduceEqDiff, Nat.reduceAdd, Nat.reduceMul, Nat.reduceLeDiff, Int.reduceLE, Int.reduceLT, Int.reduceEq, Int.reduceToNat, Int.reduceAdd, Int.reduceSub, Int.reduceMul, Int.reduceNeg, reduceCtorEq, Option.bind_some, Option.map_some, List.length_cons, List.length_nil, vcM, List.getElem?_toArray, List.getElem?_cons_zero, List.getElem?_cons_succ])
    (refine W_at c25_ok ?_; refine ⟨_, rfl, ?_⟩; simp (disch := first | omega | assumption | rfl | (simp only [vcS] <;> omega) | fail) only [↓ptV_l, ↓vcA, vcB, ↓vcD, vcE, ↓reduceIte, Nat.reduceEqDiff, Nat.reduceAdd, Nat.reduceMul, Nat.reduceLeDiff, Int.reduceLE, Int.reduceLT, Int.reduceEq, Int.reduceToNat, Int.reduceAdd, Int.reduceSub, Int.reduceMul, Int.reduceNeg, reduceCtorEq, Option.bind_some, Option.map_some, List.length_cons, List.length_nil, vcM, List.getElem?_toArray, List.getElem?_cons_zero, List.getElem?_cons_succ, d1, txC_2, hlen])
    exact clone_outs w p1 p2 t vi vo hs.out hs.outs vi vo t.outs.length 0 wj _ (by omega) hP
  | succ k ih =>
    intro i wj tl hi hP
    have hi0 : i < t.ins.length := by omega
    have hil : ((i : Int) < (t.ins.length : Nat)) := by omega
    have c3 : 0 ≤ (i : Int) ∧ (i : Int) < (t.ins.length : Nat) := by omega
    have wi : IntKind.i64.wrap ((i : Int) + 1) = ((i + 1 : Nat) : Int) := wrap_i64 (by omega) (by have := hs.ins; omega)
    have d1 := hP.c1
    have hoi := hok.ins _ (List.getElem_mem hi0)
    have hsi := hs.inp _ (List.getElem_mem hi0)
    obtain ⟨g, o, cap, c, hvi, hrd, sv, wv, rfl, hsv, hwv⟩ := CL.at hP.ins hi0
    obtain ⟨hgm, curg, hg⟩ := CL.blkT hP.ins (g := g) (by rw [hvi]; rfl)
    have q33 := rdO_cell hrd (j := 33) (by omega)
    rw [iC_33 hoi.len] at q33
    have q35 := rdO_cell hrd (j := 35) (by omega)
    rw [iC_35 hoi.len] at q35
    (refine W_at c25_ok ?_; refine ⟨_, rfl, ?_⟩; simp (disch := first | omega | assumption | rfl | (simp only [vcS] <;> omega) | fail) only [↓ptV_l, ↓vcA, vcB, ↓vcD, vcE, ↓reduceIte, Nat.reduceEqDiff, Nat.reduceAdd, Nat.reduceMul, Nat.reduceLeDiff, Int.reduceLE, Int.reduceLT, Int.reduceEq, Int.reduceToNat, Int.reduceAdd, Int.reduceSub, Int.reduceMul, Int.reduceNeg, reduceCtorEq, Option.bind_some, Option.map_some, List.length_cons, List.length_nil, vcM, List.getElem?_toArray, List.getElem?_cons_zero, List.getElem?_cons_succ, hil])
    (refine W_at c25_ok ?_; refine ⟨_, rfl, ?_⟩; simp (disch := first | omega | assumption | rfl | (simp only [vcS] <;> omega) | fail) only [↓ptV_l, ↓vcA, vcB, ↓vcD, vcE, ↓reduceIte, Nat.reduceEqDiff, Nat.reduceAdd, Nat.reduceMul, Nat.reduceLeDiff, Int.reduceLE, Int.reduceLT, Int.reduceEq, Int.reduceToNat, Int.reduceAdd, Int.reduceSub, Int.reduceMul, Int.reduceNeg, reduceCtorEq, Option.bind_some, Option.map_some, List.length_cons, List.length_nil, vcM, List.getElem?_toArray, List.getElem?_cons_zero, List.getElem?_cons_succ])
    (refine W_at c25_ok ?_; refine ⟨_, rfl, ?_⟩; simp (disch := first | omega | assumption | rfl | (simp only [vcS] <;> omega) | fail) only [↓ptV_l, ↓vcA, vcB, ↓vcD, vcE, ↓reduceIte, Nat.reduceEqDiff, Nat.reduceAdd, Nat.reduceMul, Nat.reduceLeDiff, Int.reduceLE, Int.reduceLT, Int.reduceEq, Int.reduceToNat, Int.reduceAdd, Int.reduceSub, Int.reduceMul, Int.reduceNeg, reduceCtorEq, Option.bind_some, Option.map_some, List.length_cons, List.length_nil, vcM, List.getElem?_toArray, List.getElem?_cons_zero, List.getElem?_cons_succ])
    (refine W_at c25_ok ?_; refine ⟨_, rfl, ?_⟩; simp (disch := first | omega | assumption | rfl | (simp only [vcS] <;> omega) | fail) only [↓ptV_l, ↓vcA, vcB, ↓vcD, vcE, ↓reduceIte, Nat.reduceEqDiff, Nat.reduceAdd, Nat.reduceMul, Nat.reduceLeDiff, Int.reduceLE, Int.reduceLT, Int.reduceEq, Int.reduceToNat, Int.reduceAdd, Int.reduceSub, Int.reduceMul, Int.reduceNeg, reduceCtorEq, Option.bind_some, Option.map_some, List.length_cons, List.length_nil, vcM, List.getElem?_toArray, List.getElem?_cons_zero, List.getElem?_cons_succ, d1, txC_1, hvi, c3, Int.toNat_natCast])
    (refine W_at c25_ok ?_; refine ⟨_, rfl, ?_⟩; simp (disch := first | omega | assumption | rfl | (simp only [vcS] <;> omega) | fail) only [↓ptV_l, ↓vcA, vcB, ↓vcD, vcE, ↓reduceIte, Nat.reduceEqDiff, Nat.reduceAdd, Nat.reduceMul, Nat.reduceLeDiff, Int.reduceLE, Int.reduceLT, Int.reduceEq, Int.reduceToNat, Int.reduceAdd, Int.reduceSub, Int.reduceMul, Int.reduceNeg, reduceCtorEq, Option.bind_some, Option.map_some, List.length_cons, List.length_nil, vcM, List.getElem?_toArray, List.getElem?_cons_zero, List.getElem?_cons_succ, q33, q35])
    have hEd : Ext wj wj.drew := (Keep.refl _ wj).drew
    refine callV_ret (clone_ok wj.drew sv _ ((hsv.ext hP.ext).ext hEd) (by omega)) ?_
    rintro u1 w6 ⟨hu1, hu2, hu3⟩
    have hE6 : Ext wj w6 := hEd.ext hu2
    have q356 := cell_ext q35 hE6
    have hF := hP.keep hE6
    first | (simp (disch := first | omega | assumption | rfl | (simp only [vcS] <;> omega) | fail) only [↓ptV_l, ↓vcA, vcB, ↓vcD, vcE, ↓reduceIte, Nat.reduceEqDiff, Nat.reduceAdd, Nat.reduceMul, Nat.reduceLeDiff, Int.reduceLE, Int.reduceLT, Int.reduceEq, Int.reduceToNat, Int.reduceAdd, Int.reduceSub, Int.reduceMul, Int.reduceNeg, reduceCtorEq, Option.bind_some, Option.map_some, List.length_cons, List.length_nil, vcM, List.getElem?_toArray, List.getElem?_cons_zero, List.getElem?_cons_succ, q356]) | skip
    obtain ⟨vs, v1, v2, ⟨qv, cv, v3, v4⟩, v5, v6⟩ := hwv
    have hrv : rdS w 1 wv = some ((vs.map fun v => (#[v] : Array Value)).flatMap Array.toList).toArray := by rw [flat1_list]; exact v1
    have hrv6 : rdS w6 1 wv = some ((vs.map fun v => (#[v] : Array Value)).flatMap Array.toList).toArray := by
      subst v3
      exact rdS_keep hrv hF.ext fun _ _ h => h
    have hvl : (vs.map fun v => (#[v] : Array Value)).length = t.ins[i].wit.length := by rw [List.length_map]; exact v2
    refine callV_ret (cloneR_ok w6 wv (vs.map fun v => #[v]) hrv6 (by simp) (fun c hc => ?_) ⟨qv, cv, by rw [hvl]; exact v3, by omega⟩ (by omega)) ?_
    · obtain ⟨v, hv, rfl⟩ := List.mem_map.1 hc
      obtain ⟨j, hj, rfl⟩ := List.getElem_of_mem hv
      rw [flat_1]
      exact (v6 j hj (by omega)).one
    rintro u2 w7 ⟨hO2, hE7⟩
    first | (simp (disch := first | omega | assumption | rfl | (simp only [vcS] <;> omega) | fail) only [↓ptV_l, ↓vcA, vcB, ↓vcD, vcE, ↓reduceIte, Nat.reduceEqDiff, Nat.reduceAdd, Nat.reduceMul, Nat.reduceLeDiff, Int.reduceLE, Int.reduceLT, Int.reduceEq, Int.reduceToNat, Int.reduceAdd, Int.reduceSub, Int.reduceMul, Int.reduceNeg, reduceCtorEq, Option.bind_some, Option.map_some, List.length_cons, List.length_nil, vcM, List.getElem?_toArray, List.getElem?_cons_zero, List.getElem?_cons_succ]) | skip
    obtain ⟨cs, b1, b2, b3⟩ := hF.ins
    obtain ⟨sv', wv', hci, _⟩ := (b3 i (by omega) hi0).2 (Nat.le_refl _)
    have hg7 := hE7.at (hE6.at hg (fun h => h)) (fun h => h)
    obtain ⟨g1, o1, cap1, e1, _, hw1, hO1⟩ := (b2.ext hE7).setc (e := i) (j := 33) (by omega) (by decide) u1
    have hgo : g1 = g ∧ o1 = o := by
      rw [hvi] at e1
      injection e1 with e1
      injection e1 with e1
      injection e1 with e1 e2
      exact ⟨e1.symm, e2.symm⟩
    obtain ⟨rfl, rfl⟩ := hgo
    rw [hci, iC_set33 hoi.len] at hO1
    obtain ⟨g2, o2, cap2, e2, _, hw2, hO3⟩ := hO1.setc (e := i) (j := 35) (by rw [List.length_set]; omega) (by decide) u2
    have hgo : g2 = g1 ∧ o2 = o1 := by
      rw [hvi] at e2
      injection e2 with e2
      injection e2 with e2
      injection e2 with e1 e2
      exact ⟨e1.symm, e2.symm⟩
    obtain ⟨rfl, rfl⟩ := hgo
    rw [List.getElem_set_self, iC_set35 hoi.len, List.set_set] at hO3
    refine ⟨hu1.rd.one, hw1, hO2.one, hw2, ?_⟩
    have n5 := ne_T (T' := 5) hg7 (by decide)
    have n27 := ne_T (T' := 27) hg7 (by decide)
    have ka : Keep (fun y => y = g2) w7 (w7.setCell ⟨g2, o2 + i * 36 + 33, none⟩ u1) := (Keep.refl _ w7).setCell _ fun _ => rfl
    have kb : Keep (fun y => y = g2) w7 ((w7.setCell ⟨g2, o2 + i * 36 + 33, none⟩ u1).setCell ⟨g2, o2 + i * 36 + 35, none⟩ u2) := ka.setCell _ fun _ => rfl
    have hms := (hP.keep hEd).ext.size
    have hE7' : Keep (fun y => y = g2) w6 w7 := hE7.mono fun _ h => h.elim
    have hR : RS w w6 ((w7.setCell ⟨g2, o2 + i * 36 + 33, none⟩ u1).setCell ⟨g2, o2 + i * 36 + 35, none⟩ u2) g2 vi (cs.set i (iC t.ins[i] u1 u2)) u1 u2 t.ins[i] 0 := by
      refine ⟨hE7'.trans kb fun y hy e => e, hO3, ?_, vs, hO2.keep kb fun y hy e => ?_, v2, fun j a b => ⟨fun h => by omega, fun _ => v6 j a b⟩⟩
      · exact N1.keepT ⟨hu1.ext hE7, fun y hy => Nat.le_trans hms (hu3 y hy)⟩ kb fun y hy c => by subst hy; exact n5 c
      · obtain ⟨_, c, hc⟩ := hO2.blk hy
        subst e
        exact n27 c hc
    generalize hw9 : World.setCell _ _ _ = w9 at hR ⊢
    have hlen2 : lenR u2 = some (.int .i64 (t.ins[i].wit.length : Nat)) := by rw [hO2.len, hvl]
    have q35' : cellO w9.heap[g2]? (o2 + i * 36 + 35) = some u2 := by
      obtain ⟨ga, oa, capa, cura, ea, hga, hra⟩ := hR.arr.at (j := i) (by rw [List.length_set]; omega)
      rw [List.getElem_set_self] at hra
      have := rdO_cell hra (j := 35) (by omega)
      rw [iC_35 hoi.len] at this
      rw [hvi] at ea
      injection ea with e5 e6 e7
      injection e5 with e5
      injection e5 with e8 e9
      rw [e8, e9]; exact this
    (refine W_at c25_ok ?_; refine ⟨_, rfl, ?_⟩; simp (disch := first | omega | assumption | rfl | (simp only [vcS] <;> omega) | fail) only [↓ptV_l, ↓vcA, vcB, ↓vcD, vcE, ↓reduceIte, Nat.reduceEqDiff, Nat.reduceAdd, Nat.reduceMul, Nat.reduceLeDiff, Int.reduceLE, Int.reduceLT, Int.reduceEq, Int.reduceToNat, Int.reduceAdd, Int.reduceSub, Int.reduceMul, Int.reduceNeg, reduceCtorEq, Option.bind_some, Option.map_some, List.length_cons, List.length_nil, vcM, List.getElem?_toArray, List.getElem?_cons_zero, List.getElem?_cons_succ, q35', hlen2])
    refine clone_rows _ w w6 p1 p2 g2 o2 cap i t.ins.length vi cs b1 hi0 hvi t.ins[i] hoi.len u1 u2 hsi.2.2 hsi.2.1 hF.ext hgm ?_ t.ins[i].wit.length 0 w9 _ (by omega) hR
    intro wz tlz hRz
    have hz := RS.done hF hvi hi0 b1 b3 hRz
    (refine W_at c25_ok ?_; refine ⟨_, rfl, ?_⟩; simp (disch := first | omega | assumption | rfl | (simp only [vcS] <;> omega) | fail) only [↓ptV_l, ↓vcA, vcB, ↓vcD, vcE, ↓reduceIte, Nat.reduceEqDiff, Nat.reduceAdd, Nat.reduceMul, Nat.reduceLeDiff, Int.reduceLE, Int.reduceLT, Int.reduceEq, Int.reduceToNat, Int.reduceAdd, Int.reduceSub, Int.reduceMul, Int.reduceNeg, reduceCtorEq, Option.bind_some, Option.map_some, List.length_cons, List.length_nil, vcM, List.getElem?_toArray, List.getElem?_cons_zero, List.getElem?_cons_succ, wi])
    (refine W_at c25_ok ?_; refine ⟨_, rfl, ?_⟩; simp (disch := first | omega | assumption | rfl | (simp only [vcS] <;> omega) | fail) only [↓ptV_l, ↓vcA, vcB, ↓vcD, vcE, ↓reduceIte, Nat.reduceEqDiff, Nat.reduceAdd, Nat.reduceMul, Nat.reduceLeDiff, Int.reduceLE, Int.reduceLT, Int.reduceEq, Int.reduceToNat, Int.reduceAdd, Int.reduceSub, Int.reduceMul, Int.reduceNeg, reduceCtorEq, Option.bind_some, Option.map_some, List.length_cons, List.length_nil, vcM, List.getElem?_toArray, List.getElem?_cons_zero, List.getElem?_cons_succ])
    exact ih (i + 1) wz _ (by omega) hz
set_option maxHeartbeats 3200000 in
theorem tclone_ok (w : World) (iv ov : Value) (t : TxV) (hT : TxR w iv ov t) (hok : t.Ok) (hs : t.Sm) :
    Calls Try.prog 25 #[.agg (txC t iv ov)] w (Ret fun u w' => ∃ iv' ov', u = .agg (txC t iv' ov') ∧ InsN w.heap.size w' iv' t.ins ∧ OusN w.heap.size w' ov' t.outs ∧ Ext w w') := by
  refine calls_of_cfg c25_ok (Nat.le_of_ble_eq_true rfl) ?_
  simp only [argE_nil, argE_cons, Nat.reduceAdd, Nat.zero_add]
  have hi1 := ListR.one hT.ins
  have ho1 := ListR.one hT.outs
  have hfx : flat (txC t iv ov) := by intro y hy; simp only [txC, List.mem_toArray, List.mem_cons, List.not_mem_nil, or_false] at hy; rcases hy with rfl | rfl | rfl | rfl <;> first | rfl | assumption
  have hcx : (Value.agg (txC t iv ov)).cells = txC t iv ov := rfl
  have hzx := txC_sz t iv ov
  (refine W_at c25_ok ?_; refine ⟨_, rfl, ?_⟩; simp (disch := first | omega | assumption | rfl | (simp only [vcS] <;> omega) | fail) only [↓ptV_l, ↓vcA, vcB, ↓vcD, vcE, ↓reduceIte, Nat.reduceEqDiff, Nat.reduceAdd, Nat.reduceMul, Nat.reduceLeDiff, Int.reduceLE, Int.reduceLT, Int.reduceEq, Int.reduceToNat, Int.reduceAdd, Int.reduceSub, Int.reduceMul, Int.reduceNeg, reduceCtorEq, Option.bind_some, Option.map_some, List.length_cons, List.length_nil, vcM, List.getElem?_toArray, List.getElem?_cons_zero, List.getElem?_cons_succ, hfx, hcx, hzx])
  have hE1 : Ext w (w.alloc (.cells (txC t iv ov) 26)) := (Keep.refl _ w).alloc _
  have c1 : (w.alloc (.cells (txC t iv ov) 26)).heap[w.heap.size]? = some (.cells (txC t iv ov) 26 (0, 0)) := heap_new _ _ _ rfl
  have s1 : (w.alloc (.cells (txC t iv ov) 26)).heap.size = w.heap.size + 1 := size_alloc _ _
  generalize World.alloc w _ = w1 at hE1 c1 s1 ⊢
  have hE2 : Ext w1 (w1.alloc (.cells (zc [(1, .int .i32 0), (2, .slice none 0 0), (1, .int .u32 0)]) 26)) := (Keep.refl _ w1).alloc _
  have c2 : (w1.alloc (.cells (zc [(1, .int .i32 0), (2, .slice none 0 0), (1, .int .u32 0)]) 26)).heap[w1.heap.size]? = some (.cells (zc [(1, .int .i32 0), (2, .slice none 0 0), (1, .int .u32 0)]) 26 (0, 0)) := heap_new _ _ _ rfl
  generalize World.alloc w1 _ = w2 at hE2 c2 ⊢
  rw [s1] at c2
  generalize hp1 : w.heap.size = p1 at c1 c2 s1 ⊢
  generalize hp2 : p1 + 1 = p2 at c2 s1 ⊢
  have c12 := hE2.at c1 (fun h => h)
  have hE02 := hE1.ext hE2
  have hEd : Ext w2 w2.drew := (Keep.refl _ w2).drew
  obtain ⟨cs, a1, a2, a3, ⟨qi, ci, a4, a5⟩, a6, a7⟩ := hT.ins
  obtain ⟨ds, b1, b2, b3, ⟨qo, co, b4, b5⟩, b6, b7⟩ := hT.outs
  have l1 := hs.ins
  have l2 := hs.outs
  have a3d : rdS w2.drew 36 iv = some (cs.flatMap Array.toList).toArray := by subst a4; exact rdS_keep a3 (hE02.ext hEd) fun _ _ h => h
  (refine W_at c25_ok ?_; refine ⟨_, rfl, ?_⟩; simp (disch := first | omega | assumption | rfl | (simp only [vcS] <;> omega) | fail) only [↓ptV_l, ↓vcA, vcB, ↓vcD, vcE, ↓reduceIte, Nat.reduceEqDiff, Nat.reduceAdd, Nat.reduceMul, Nat.reduceLeDiff, Int.reduceLE, Int.reduceLT, Int.reduceEq, Int.reduceToNat, Int.reduceAdd, Int.reduceSub, Int.reduceMul, Int.reduceNeg, reduceCtorEq, Option.bind_some, Option.map_some, List.length_cons, List.length_nil, vcM, List.getElem?_toArray, List.getElem?_cons_zero, List.getElem?_cons_succ, c12, txC_1, txC_2])
  refine callV_ret (cloneI_ok w2.drew iv cs a3d a2 (fun c hc => ?_) ⟨qi, ci, by rw [a1]; exact a4, by omega⟩ (by omega)) ?_
  · obtain ⟨j, hj, rfl⟩ := List.getElem_of_mem hc
    obtain ⟨sv, wv, e, r1, r2⟩ := a7 j hj (by omega)
    rw [e]; exact iC_flat r1.one (RowR.one r2)
  rintro vi w3 ⟨hO3, hE3⟩
  have c13 := hE3.at (hEd.at c12 (fun h => h)) (fun h => h)
  have c23 := hE3.at (hEd.at c2 (fun h => h)) (fun h => h)
  have b3d : rdS w3 2 ov = some (ds.flatMap Array.toList).toArray := by subst b4; exact rdS_keep b3 ((hE02.ext hEd).ext hE3) fun _ _ h => h
  first | (simp (disch := first | omega | assumption | rfl | (simp only [vcS] <;> omega) | fail) only [↓ptV_l, ↓vcA, vcB, ↓vcD, vcE, ↓reduceIte, Nat.reduceEqDiff, Nat.reduceAdd, Nat.reduceMul, Nat.reduceLeDiff, Int.reduceLE, Int.reduceLT, Int.reduceEq, Int.reduceToNat, Int.reduceAdd, Int.reduceSub, Int.reduceMul, Int.reduceNeg, reduceCtorEq, Option.bind_some, Option.map_some, List.length_cons, List.length_nil, vcM, List.getElem?_toArray, List.getElem?_cons_zero, List.getElem?_cons_succ, c13, txC_1, txC_2]) | skip
  refine callV_ret (cloneO_ok w3 ov ds b3d b2 (fun c hc => ?_) ⟨qo, co, by rw [b1]; exact b4, by omega⟩ (by omega)) ?_
  · obtain ⟨j, hj, rfl⟩ := List.getElem_of_mem hc
    obtain ⟨sv, e, r1⟩ := b7 j hj (by omega)
    rw [e]; exact oC_flat r1.one
  rintro vo w4 ⟨hO4, hE4⟩
  have c14 := hE4.at c13 (fun h => h)
  have c24 := hE4.at c23 (fun h => h)
  first | (simp (disch := first | omega | assumption | rfl | (simp only [vcS] <;> omega) | fail) only [↓ptV_l, ↓vcA, vcB, ↓vcD, vcE, ↓reduceIte, Nat.reduceEqDiff, Nat.reduceAdd, Nat.reduceMul, Nat.reduceLeDiff, Int.reduceLE, Int.reduceLT, Int.reduceEq, Int.reduceToNat, Int.reduceAdd, Int.reduceSub, Int.reduceMul, Int.reduceNeg, reduceCtorEq, Option.bind_some, Option.map_some, List.length_cons, List.length_nil, vcM, List.getElem?_toArray, List.getElem?_cons_zero, List.getElem?_cons_succ, c14, txC_1, txC_2]) | skip
  have ka : Keep (fun y => y = p1) w4 (w4.setCell ⟨p1, 1, none⟩ vi) := (Keep.refl _ w4).setCell _ fun _ => rfl
  have kb : Keep (fun y => y = p1) w4 ((w4.setCell ⟨p1, 1, none⟩ vi).setCell ⟨p1, 2, none⟩ vo) := ka.setCell _ fun _ => rfl
  have d1 : (w4.setCell ⟨p1, 1, none⟩ vi).heap[p1]? = some (.cells (txC t vi ov) 26 (0, 0)) := by rw [heap_setCell_eq c14]; rfl
  have d2 : ((w4.setCell ⟨p1, 1, none⟩ vi).setCell ⟨p1, 2, none⟩ vo).heap[p1]? = some (.cells (txC t vi vo) 26 (0, 0)) := by rw [heap_setCell_eq d1]; rfl
  have n50 := ne_T (T' := 50) c14 (by decide)
  have n54 := ne_T (T' := 54) c14 (by decide)
  have hsd := (hE02.ext hEd).size
  have hP : CT w ((w4.setCell ⟨p1, 1, none⟩ vi).setCell ⟨p1, 2, none⟩ vo) p1 p2 t vi vo 0 0 :=
    ⟨(((hE02.ext hEd).ext hE3).ext hE4).trans kb fun y hy e => by omega, d2, ⟨_, kb.at c24 (by omega), by decide⟩,
      CL.start a1 (((hO3.ext hE4).keep kb fun y hy e => by obtain ⟨_, c, hc⟩ := (hO3.ext hE4).blk hy; subst e; exact n50 c hc).base hsd) a7,
      CL.start b1 ((hO4.keep kb fun y hy e => by obtain ⟨_, c, hc⟩ := hO4.blk hy; subst e; exact n54 c hc).base (Nat.le_trans hsd hE3.size)) b7, by omega, by omega, by omega⟩
  refine ⟨hO3.one, wr1_of c14 (by rw [txC_sz]; decide), hO4.one, wr1_of d1 (by rw [txC_sz]; decide), ?_⟩
  generalize World.setCell _ _ _ = w6 at hP d2 ⊢
  have hlen := CL.len hP.ins
  (refine W_at c25_ok ?_; refine ⟨_, rfl, ?_⟩; simp (disch := first | omega | assumption | rfl | (simp only [vcS] <;> omega) | fail) only [↓ptV_l, ↓vcA, vcB, ↓vcD, vcE, ↓reduceIte, Nat.reduceEqDiff, Nat.reduceAdd, Nat.reduceMul, Nat.reduceLeDiff, Int.reduceLE, Int.reduceLT, Int.reduceEq, Int.reduceToNat, Int.reduceAdd, Int.reduceSub, Int.reduceMul, Int.reduceNeg, reduceCtorEq, Option.bind_some, Option.map_some, List.length_cons, List.length_nil, vcM, List.getElem?_toArray, List.getElem?_cons_zero, List.getElem?_cons_succ, d2, txC_1, hlen])
  subst hp1
  exact clone_ins w _ p2 t hok hs vi vo t.ins.length 0 w6 _ (by omega) hP
end Go.Proofs
namespace Go.Proofs
open Go.Vc
set_option maxRecDepth 10000

theorem andK31 {x : Int} (h : 0 ≤ x ∧ x ≤ 255) : IntKind.u8.wrap (((BitVec.ofInt IntKind.u8.bits x &&& BitVec.ofInt IntKind.u8.bits 31).toNat : Nat) : Int) = x % 32 := by
  obtain ⟨n, rfl⟩ := Int.eq_ofNat_of_zero_le h.1
  have hd : ∀ n : Fin 256, IntKind.u8.wrap (((BitVec.ofInt IntKind.u8.bits ((n.val : Nat) : Int) &&& BitVec.ofInt IntKind.u8.bits 31).toNat : Nat) : Int) = ((n.val : Nat) : Int) % 32 := by decide +kernel
  exact hd ⟨n, by omega⟩
theorem andK128 {x : Int} (h : 0 ≤ x ∧ x ≤ 255) : IntKind.u8.wrap (((BitVec.ofInt IntKind.u8.bits x &&& BitVec.ofInt IntKind.u8.bits 128).toNat : Nat) : Int) = if 128 ≤ x then 128 else 0 := by
  obtain ⟨n, rfl⟩ := Int.eq_ofNat_of_zero_le h.1
  have hd : ∀ n : Fin 256, IntKind.u8.wrap (((BitVec.ofInt IntKind.u8.bits ((n.val : Nat) : Int) &&& BitVec.ofInt IntKind.u8.bits 128).toNat : Nat) : Int) = if 128 ≤ ((n.val : Nat) : Int) then 128 else 0 := by decide +kernel
  exact hd ⟨n, by omega⟩
theorem way_ok (w : World) (k : Int) (hk : 0 ≤ k ∧ k ≤ 255) :
    Calls Try.prog 23 #[.int .u8 k] w (Ret fun u w' => u = .tuple #[.int .u8 (k % 32), .bool (decide (128 ≤ k))] ∧ w' = w) := by
  refine calls_of_cfg c23_ok (Nat.le_of_ble_eq_true rfl) ?_
  simp only [argE_nil, argE_cons, Nat.reduceAdd, Nat.zero_add]
  have a1 := andK31 hk
  have a2 := andK128 hk
  (refine W_at c23_ok ?_; refine ⟨_, rfl, ?_⟩; simp (disch := first | omega | assumption | rfl | (simp only [vcS] <;> omega) | fail) only [↓ptV_l, ↓vcA, vcB, ↓vcD, vcE, ↓reduceIte, Nat.reduceEqDiff, Nat.reduceAdd, Nat.reduceMul, Nat.reduceLeDiff, Int.reduceLE, Int.reduceLT, Int.reduceEq, Int.reduceToNat, Int.reduceAdd, Int.reduceSub, Int.reduceMul, Int.reduceNeg, reduceCtorEq, Option.bind_some, Option.map_some, List.length_cons, List.length_nil, vcM, List.getElem?_toArray, List.getElem?_cons_zero, List.getElem?_cons_succ])
  (refine W_at c23_ok ?_; refine ⟨_, rfl, ?_⟩; simp (disch := first | omega | assumption | rfl | (simp only [vcS] <;> omega) | fail) only [↓ptV_l, ↓vcA, vcB, ↓vcD, vcE, ↓reduceIte, Nat.reduceEqDiff, Nat.reduceAdd, Nat.reduceMul, Nat.reduceLeDiff, Int.reduceLE, Int.reduceLT, Int.reduceEq, Int.reduceToNat, Int.reduceAdd, Int.reduceSub, Int.reduceMul, Int.reduceNeg, reduceCtorEq, Option.bind_some, Option.map_some, List.length_cons, List.length_nil, vcM, List.getElem?_toArray, List.getElem?_cons_zero, List.getElem?_cons_succ, a1, a2])
  (refine W_at c23_ok ?_; refine ⟨_, rfl, ?_⟩; simp (disch := first | omega | assumption | rfl | (simp only [vcS] <;> omega) | fail) only [↓ptV_l, ↓vcA, vcB, ↓vcD, vcE, ↓reduceIte, Nat.reduceEqDiff, Nat.reduceAdd, Nat.reduceMul, Nat.reduceLeDiff, Int.reduceLE, Int.reduceLT, Int.reduceEq, Int.reduceToNat, Int.reduceAdd, Int.reduceSub, Int.reduceMul, Int.reduceNeg, reduceCtorEq, Option.bind_some, Option.map_some, List.length_cons, List.length_nil, vcM, List.getElem?_toArray, List.getElem?_cons_zero, List.getElem?_cons_succ, Ret_returned])
  by_cases h : 128 ≤ k
  · simp [h]
  · simp [h]
def oneD : List Int := 1 :: List.replicate 31 0
theorem nothing_ok (w : World) : Calls Try.prog 24 #[] w (Ret fun u w' => u = .agg (bv oneD).toArray ∧ Ext w w') := by
  refine calls_of_cfg c24_ok (Nat.le_of_ble_eq_true rfl) ?_
  simp only [argE_nil, argE_cons, Nat.reduceAdd, Nat.zero_add]
  (refine W_at c24_ok ?_; refine ⟨_, rfl, ?_⟩; simp (disch := first | omega | assumption | rfl | (simp only [vcS] <;> omega) | fail) only [↓ptV_l, ↓vcA, vcB, ↓vcD, vcE, ↓reduceIte, Nat.reduceEqDiff, Nat.reduceAdd, Nat.reduceMul, Nat.reduceLeDiff, Int.reduceLE, Int.reduceLT, Int.reduceEq, Int.reduceToNat, Int.reduceAdd, Int.reduceSub, Int.reduceMul, Int.reduceNeg, reduceCtorEq, Option.bind_some, Option.map_some, List.length_cons, List.length_nil, vcM, List.getElem?_toArray, List.getElem?_cons_zero, List.getElem?_cons_succ])
  have hb : #[Value.int .u8 1] ++ zc [(31, .int .u8 0)] = (bv oneD).toArray := rfl
  (refine W_at c24_ok ?_; refine ⟨_, rfl, ?_⟩; simp (disch := first | omega | assumption | rfl | (simp only [vcS] <;> omega) | fail) only [↓ptV_l, ↓vcA, vcB, ↓vcD, vcE, ↓reduceIte, Nat.reduceEqDiff, Nat.reduceAdd, Nat.reduceMul, Nat.reduceLeDiff, Int.reduceLE, Int.reduceLT, Int.reduceEq, Int.reduceToNat, Int.reduceAdd, Int.reduceSub, Int.reduceMul, Int.reduceNeg, reduceCtorEq, Option.bind_some, Option.map_some, List.length_cons, List.length_nil, vcM, List.getElem?_toArray, List.getElem?_cons_zero, List.getElem?_cons_succ, hb])
  have s32 : (bv oneD).toArray.size = 32 := rfl
  refine ⟨s32, bv_flat _, ?_⟩
  have hE6 : Ext w ((w.alloc (.cells (zc [(32, .int .u8 0)]) 36)).putN w.heap.size 0 (bv oneD).toArray) := ((Keep.refl _ w).alloc _).putN _ (by intro hh; exfalso; omega)
  have c15 : ((w.alloc (.cells (zc [(32, .int .u8 0)]) 36)).putN w.heap.size 0 (bv oneD).toArray).heap[w.heap.size]? = some (.cells (bv oneD).toArray 36 (0, 0)) := by
    rw [heap_putN_eq (heap_new _ _ _ rfl), splice_all (by rw [s32]; rfl)]
  have hr32 : rdO (some (.cells (bv oneD).toArray 36 (0, 0))) 0 32 = some (bv oneD).toArray := rdO_all _ _ _ _ s32
  (refine W_at c24_ok ?_; refine ⟨_, rfl, ?_⟩; simp (disch := first | omega | assumption | rfl | (simp only [vcS] <;> omega) | fail) only [↓ptV_l, ↓vcA, vcB, ↓vcD, vcE, ↓reduceIte, Nat.reduceEqDiff, Nat.reduceAdd, Nat.reduceMul, Nat.reduceLeDiff, Int.reduceLE, Int.reduceLT, Int.reduceEq, Int.reduceToNat, Int.reduceAdd, Int.reduceSub, Int.reduceMul, Int.reduceNeg, reduceCtorEq, Option.bind_some, Option.map_some, List.length_cons, List.length_nil, vcM, List.getElem?_toArray, List.getElem?_cons_zero, List.getElem?_cons_succ, c15, hr32, Ret_returned])
  exact hE6
/-- Bytes that a step on another's block doesn't touch. -/
def SR (m : Nat) (w : World) (v : Value) (bs : List Int) : Prop := Rd w v bs ∧ (bs ≠ [] → ∀ q n c, v = .slice (some q) n c → q.block < m ∨ ∃ cs, w.heap[q.block]? = some (.cells cs 5 (0, 0)))
theorem SR.keepT {m : Nat} {S : Nat → Prop} {w w' : World} {v : Value} {bs : List Int} (h : SR m w v bs) (k : Keep S w w') (hS : ∀ g, S g → m ≤ g ∧ ∀ c, w.heap[g]? ≠ some (.cells c 5 (0, 0))) : SR m w' v bs := by
  obtain ⟨h1, h2⟩ := h
  have hn : bs ≠ [] → ∀ q n c, v = .slice (some q) n c → ¬ S q.block := fun h0 q n c e hs => by
    rcases h2 h0 q n c e with h | ⟨cs, hc⟩
    · have := (hS _ hs).1; omega
    · exact (hS _ hs).2 cs hc
  exact ⟨h1.keep0 k hn, fun h0 q n c e => by
    rcases h2 h0 q n c e with h | ⟨cs, hc⟩
    · exact .inl h
    · exact .inr ⟨cs, k.at hc (hn h0 q n c e)⟩⟩
theorem N1.sr {m m' : Nat} {w : World} {v : Value} {bs : List Int} (h : N1 m w v bs) : SR m' w v bs := ⟨h.1.rd, fun _ q n c e => by subst e; exact .inr (row_type h.1 rfl)⟩
theorem SR.nil (m : Nat) (w : World) : SR m w (.slice none 0 0) [] := ⟨Rd.nil w, fun h => absurd rfl h⟩
theorem Rd.sr {w w' : World} {v : Value} {bs : List Int} (h : Rd w v bs) (k : Ext w w') : SR w.heap.size w' v bs := ⟨h.ext k, fun h0 q n c e => .inl (h.lt h0 q n c e)⟩
/-- The digest of the older way, plainly. -/
def legIn (i : Nat) (script : List Int) (o : Int) (k : Nat) (x : TxI) : TxI :=
  if k = i then { x with script := script } else { x with script := [], seq := if o = 2 ∨ o = 3 then 0 else x.seq }
end Go.Proofs
namespace Go.Proofs
open Go.Vc
set_option maxRecDepth 10000

def IQ (m : Nat) (w : World) (c : Array Value) (x : TxI) : Prop := ∃ sv wv, c = iC x sv wv ∧ SR m w sv x.script ∧ RowN m w wv x.wit
def OQ (m : Nat) (w : World) (c : Array Value) (y : TxO) : Prop := ∃ sv, c = oC y sv ∧ SR m w sv y.script
/-- A step on blocks of other types, from a block on. -/
def Far (m : Nat) (w : World) (S : Nat → Prop) : Prop := ∀ g, S g → m ≤ g ∧ (∀ c, w.heap[g]? ≠ some (.cells c 5 (0, 0))) ∧ ∀ c, w.heap[g]? ≠ some (.cells c 27 (0, 0))
theorem Far.none (m : Nat) (w : World) : Far m w fun _ => False := fun _ h => h.elim
theorem Far.one {m : Nat} {w : World} {g : Nat} {c : Array Value} {T : TypeId} (h : w.heap[g]? = some (.cells c T (0, 0))) (h5 : T ≠ 5) (h27 : T ≠ 27) (hm : m ≤ g) : Far m w fun y => y = g := fun y hy => by
  subst hy
  exact ⟨hm, ne_T h h5, ne_T h h27⟩
theorem IQ.keepT {m : Nat} {S : Nat → Prop} {w w' : World} {c : Array Value} {x : TxI} (h : IQ m w c x) (k : Keep S w w') (hS : Far m w S) : IQ m w' c x := by
  obtain ⟨sv, wv, h1, h2, h3⟩ := h
  exact ⟨sv, wv, h1, h2.keepT k fun g hg => ⟨(hS g hg).1, (hS g hg).2.1⟩, h3.keepT k fun g hg c => ⟨(hS g hg).2.1 c, (hS g hg).2.2 c⟩⟩
theorem OQ.keepT {m : Nat} {S : Nat → Prop} {w w' : World} {c : Array Value} {y : TxO} (h : OQ m w c y) (k : Keep S w w') (hS : Far m w S) : OQ m w' c y := by
  obtain ⟨sv, h1, h2⟩ := h
  exact ⟨sv, h1, h2.keepT k fun g hg => ⟨(hS g hg).1, (hS g hg).2.1⟩⟩
theorem InN.iq {m m' : Nat} {w : World} {c : Array Value} {x : TxI} (h : InN m w c x) (hm : m' ≤ m) : IQ m' w c x := by
  obtain ⟨sv, wv, h1, h2, h3⟩ := h
  exact ⟨sv, wv, h1, h2.sr, h3.base hm⟩
theorem OuN.oq {m m' : Nat} {w : World} {c : Array Value} {y : TxO} (h : OuN m w c y) : OQ m' w c y := by
  obtain ⟨sv, h1, h2⟩ := h
  exact ⟨sv, h1, h2.sr⟩
structure LS (w wj : World) (p4 : Nat) (t : TxV) (vi vo : Value) (li : List TxI) (lo : List TxO) : Prop where
  ext : Ext w wj
  c4 : wj.heap[p4]? = some (.cells (txC t vi vo) 26 (0, 0))
  ins : ListN IQ 50 36 w.heap.size wj vi li
  outs : ListN OQ 54 2 w.heap.size wj vo lo
  l4 : w.heap.size ≤ p4
section
variable {w wj w' : World} {p4 : Nat} {t : TxV} {vi vo : Value} {li : List TxI} {lo : List TxO}
theorem LS.keep (h : LS w wj p4 t vi vo li lo) (k : Ext wj w') : LS w w' p4 t vi vo li lo :=
  ⟨h.ext.ext k, k.at h.c4 (fun h => h), ListN.keepT h.ins k (fun _ h => h.elim) fun _ _ h => IQ.keepT h k (Far.none _ _), ListN.keepT h.outs k (fun _ h => h.elim) fun _ _ h => OQ.keepT h k (Far.none _ _), h.l4⟩
/-- The lists themselves. -/
theorem LS.put1 (h : LS w wj p4 t vi vo li lo) {v' : Value} {l' : List TxI} (hv : ListN IQ 50 36 w.heap.size wj v' l') : wr1 wj p4 1 ∧ LS w (wj.setCell ⟨p4, 1, none⟩ v') p4 t v' vo l' lo := by
  have hk : Keep (fun g => g = p4) wj (wj.setCell ⟨p4, 1, none⟩ v') := (Keep.refl _ wj).setCell _ fun _ => rfl
  have hF := Far.one h.c4 (by decide) (by decide) h.l4
  have n50 := ne_T (T' := 50) h.c4 (by decide)
  have n54 := ne_T (T' := 54) h.c4 (by decide)
  have l4 := h.l4
  exact ⟨wr1_of h.c4 (by rw [txC_sz]; decide), h.ext.trans hk fun g hg e => by omega, by rw [heap_setCell_eq h.c4]; rfl,
    ListN.keepT hv hk (fun g hg c => by subst hg; exact n50 c) fun _ _ hR => IQ.keepT hR hk hF, ListN.keepT h.outs hk (fun g hg c => by subst hg; exact n54 c) fun _ _ hR => OQ.keepT hR hk hF, h.l4⟩
theorem LS.put2 (h : LS w wj p4 t vi vo li lo) {v' : Value} {l' : List TxO} (hv : ListN OQ 54 2 w.heap.size wj v' l') : wr1 wj p4 2 ∧ LS w (wj.setCell ⟨p4, 2, none⟩ v') p4 t vi v' li l' := by
  have hk : Keep (fun g => g = p4) wj (wj.setCell ⟨p4, 2, none⟩ v') := (Keep.refl _ wj).setCell _ fun _ => rfl
  have hF := Far.one h.c4 (by decide) (by decide) h.l4
  have n50 := ne_T (T' := 50) h.c4 (by decide)
  have n54 := ne_T (T' := 54) h.c4 (by decide)
  have l4 := h.l4
  exact ⟨wr1_of h.c4 (by rw [txC_sz]; decide), h.ext.trans hk fun g hg e => by omega, by rw [heap_setCell_eq h.c4]; rfl,
    ListN.keepT h.ins hk (fun g hg c => by subst hg; exact n50 c) fun _ _ hR => IQ.keepT hR hk hF, ListN.keepT hv hk (fun g hg c => by subst hg; exact n54 c) fun _ _ hR => OQ.keepT hR hk hF, h.l4⟩
/-- A cell of an input. -/
theorem LS.setI (h : LS w wj p4 t vi vo li lo) {g o n cap i j : Nat} (he : vi = .slice (some ⟨g, o, none⟩) n cap) (hi : i < li.length) (hj : j < 36) (val : Value) (x' : TxI)
    (hnew : ∀ w' c, Keep (fun y => y = g) wj w' → Far w.heap.size wj (fun y => y = g) → IQ w.heap.size wj c li[i] → IQ w.heap.size w' (c.setIfInBounds j val) x') :
    wr1 wj g (o + i * 36 + j) ∧ LS w (wj.setCell ⟨g, o + i * 36 + j, none⟩ val) p4 t vi vo (li.set i x') lo := by
  have hk : Keep (fun y => y = g) wj (wj.setCell ⟨g, o + i * 36 + j, none⟩ val) := (Keep.refl _ wj).setCell _ fun _ => rfl
  obtain ⟨hm, cur, hg⟩ := ListN.blkT h.ins (g := g) (by rw [he]; rfl)
  have hF := Far.one hg (by decide) (by decide) hm
  have n26 := ne_T (T' := 26) hg (by decide)
  have n54 := ne_T (T' := 54) hg (by decide)
  obtain ⟨hw, hL⟩ := ListN.setc h.ins he hi hj val x' (fun c hc => hnew _ c hk hF hc) fun c x hR => IQ.keepT hR hk hF
  exact ⟨hw, h.ext.trans hk fun y hy e => by omega, hk.at h.c4 fun e => n26 _ (e ▸ h.c4), hL, ListN.keepT h.outs hk (fun g' hg' c => by subst hg'; exact n54 c) fun _ _ hR => OQ.keepT hR hk hF, h.l4⟩
/-- The script of an input: nothing, another's. The number: nought. -/
theorem LS.script (h : LS w wj p4 t vi vo li lo) {g o n cap i : Nat} (he : vi = .slice (some ⟨g, o, none⟩) n cap) (hi : i < li.length) (hl : li[i].prev.length = 32) {val : Value} {bs : List Int} (hv : SR w.heap.size wj val bs) :
    wr1 wj g (o + i * 36 + 33) ∧ LS w (wj.setCell ⟨g, o + i * 36 + 33, none⟩ val) p4 t vi vo (li.set i { li[i] with script := bs }) lo :=
  h.setI he hi (by decide) val _ fun w' c hk hF hI => by
    obtain ⟨sv, wv, rfl, h2, h3⟩ := hI
    refine ⟨val, wv, ?_, hv.keepT hk fun g hg => ⟨(hF g hg).1, (hF g hg).2.1⟩, h3.keepT hk fun g hg c => ⟨(hF g hg).2.1 c, (hF g hg).2.2 c⟩⟩
    rw [iC_set33 hl]; rfl
theorem LS.seq (h : LS w wj p4 t vi vo li lo) {g o n cap i : Nat} (he : vi = .slice (some ⟨g, o, none⟩) n cap) (hi : i < li.length) (hl : li[i].prev.length = 32) (q : Int) :
    wr1 wj g (o + i * 36 + 34) ∧ LS w (wj.setCell ⟨g, o + i * 36 + 34, none⟩ (.int .u32 q)) p4 t vi vo (li.set i { li[i] with seq := q }) lo :=
  h.setI he hi (by decide) _ _ fun w' c hk hF hI => by
    obtain ⟨sv, wv, rfl, h2, h3⟩ := hI
    refine ⟨sv, wv, ?_, h2.keepT hk fun g hg => ⟨(hF g hg).1, (hF g hg).2.1⟩, h3.keepT hk fun g hg c => ⟨(hF g hg).2.1 c, (hF g hg).2.2 c⟩⟩
    rw [iC_set34 hl]
end
end Go.Proofs
namespace Go.Proofs
open Go.Vc
set_option maxRecDepth 10000

set_option maxHeartbeats 3200000 in
theorem leg_ins (Q : Ending → World → Prop) (w : World) (p4 p8 : Nat) (t : TxV) (hok : t.Ok) (hln : t.ins.length ≤ 100000) (vi vo : Value) (lo : List TxO) (i : Nat) (hi : i < t.ins.length) (x : Value) (bs : List Int) (hx : Rd w x bs) (kind o : Int) (al : Bool) (c8 : Array Value)
    (hdone : ∀ wj tl, LS w wj p4 t vi vo (t.ins.mapIdx (legIn i bs o)) lo → wj.heap[p8]? = some (.cells c8 36 (0, 0)) →
      W Try.prog Q 12 22 ((1, .int .i64 (i : Nat)) :: (2, x) :: (3, .int .u8 kind) :: (4, .pointer (some ⟨p4, 0, none⟩)) :: (8, .pointer (some ⟨p8, 0, none⟩)) :: (9, .int .u8 o) :: (10, .bool al) :: tl) wj) :
    ∀ (k j : Nat) (wj : World) (li : List TxI) (tl : Env), k + j = t.ins.length → li.length = t.ins.length → (∀ a (h : a < li.length) (h' : a < t.ins.length), li[a] = if a < j then legIn i bs o a t.ins[a] else t.ins[a]) → LS w wj p4 t vi vo li lo → wj.heap[p8]? = some (.cells c8 36 (0, 0)) →
      W Try.prog Q 12 35 ((1, .int .i64 (i : Nat)) :: (2, x) :: (3, .int .u8 kind) :: (4, .pointer (some ⟨p4, 0, none⟩)) :: (8, .pointer (some ⟨p8, 0, none⟩)) :: (9, .int .u8 o) :: (10, .bool al) :: (45, .int .i64 (t.ins.length : Nat)) :: (46, .int .i64 (j : Nat)) :: tl) wj := by
  intro k
  induction k with
  | zero =>
    intro j wj li tl hj hll hli hP h8
    have hil : ¬ ((j : Int) < (t.ins.length : Nat)) := by omega
    have e : li = t.ins.mapIdx (legIn i bs o) := by
      refine List.ext_getElem (by simp [hll]) fun a b c => ?_
      rw [hli a b (by omega), if_pos (by omega), List.getElem_mapIdx]
    rw [e] at hP
    (refine W_at c12_ok ?_; refine ⟨_, rfl, ?_⟩; simp (disch := first | omega | assumption | rfl | (simp only [vcS] <;> omega) | fail) only [↓ptV_l, ↓vcA, vcB, ↓vcD, vcE, ↓reduceIte, Nat.reduceEqDiff, Nat.reduceAdd, Nat.reduceMul, Nat.reduceLeDiff, Int.reduceLE, Int.reduceLT, Int.reduceEq, Int.reduceToNat, Int.reduceAdd, Int.reduceSub, Int.reduceMul, Int.reduceNeg, reduceCtorEq, Option.bind_some, Option.map_some, List.length_cons, List.length_nil, vcM, List.getElem?_toArray, List.getElem?_cons_zero, List.getElem?_cons_succ, hil])
    (refine W_at c12_ok ?_; refine ⟨_, rfl, ?_⟩; simp (disch := first | omega | assumption | rfl | (simp only [vcS] <;> omega) | fail) only [↓ptV_l, ↓vcA, vcB, ↓vcD, vcE, ↓reduceIte, Nat.reduceEqDiff, Nat.reduceAdd, Nat.reduceMul, Nat.reduceLeDiff, Int.reduceLE, Int.reduceLT, Int.reduceEq, Int.reduceToNat, Int.reduceAdd, Int.reduceSub, Int.reduceMul, Int.reduceNeg, reduceCtorEq, Option.bind_some, Option.map_some, List.length_cons, List.length_nil, vcM, List.getElem?_toArray, List.getElem?_cons_zero, List.getElem?_cons_succ])
    exact hdone wj _ hP h8
  | succ k ih =>
    intro j wj li tl hj hll hli hP h8
    have hj0 : j < li.length := by omega
    have hil : ((j : Int) < (t.ins.length : Nat)) := by omega
    have c3 : 0 ≤ (j : Int) ∧ (j : Int) < (li.length : Nat) := by omega
    have wi : IntKind.i64.wrap ((j : Int) + 1) = ((j + 1 : Nat) : Int) := wrap_i64 (by omega) (by omega)
    have hlj := hli j hj0 (by omega)
    rw [if_neg (by omega)] at hlj
    have hpl : li[j].prev.length = 32 := by rw [hlj]; exact (hok.ins _ (List.getElem_mem _)).len
    have d4 := hP.c4
    obtain ⟨g, oo, cap, c, hvi, hrd, _, hm, cur, hg⟩ := ListN.at hP.ins hj0
    have n36 := ne_T (T' := 36) hg (by decide)
    have hp8 : p8 ≠ g := fun e => n36 _ (e ▸ h8)
    (refine W_at c12_ok ?_; refine ⟨_, rfl, ?_⟩; simp (disch := first | omega | assumption | rfl | (simp only [vcS] <;> omega) | fail) only [↓ptV_l, ↓vcA, vcB, ↓vcD, vcE, ↓reduceIte, Nat.reduceEqDiff, Nat.reduceAdd, Nat.reduceMul, Nat.reduceLeDiff, Int.reduceLE, Int.reduceLT, Int.reduceEq, Int.reduceToNat, Int.reduceAdd, Int.reduceSub, Int.reduceMul, Int.reduceNeg, reduceCtorEq, Option.bind_some, Option.map_some, List.length_cons, List.length_nil, vcM, List.getElem?_toArray, List.getElem?_cons_zero, List.getElem?_cons_succ, hil])
    (refine W_at c12_ok ?_; refine ⟨_, rfl, ?_⟩; simp (disch := first | omega | assumption | rfl | (simp only [vcS] <;> omega) | fail) only [↓ptV_l, ↓vcA, vcB, ↓vcD, vcE, ↓reduceIte, Nat.reduceEqDiff, Nat.reduceAdd, Nat.reduceMul, Nat.reduceLeDiff, Int.reduceLE, Int.reduceLT, Int.reduceEq, Int.reduceToNat, Int.reduceAdd, Int.reduceSub, Int.reduceMul, Int.reduceNeg, reduceCtorEq, Option.bind_some, Option.map_some, List.length_cons, List.length_nil, vcM, List.getElem?_toArray, List.getElem?_cons_zero, List.getElem?_cons_succ])
    (refine W_at c12_ok ?_; refine ⟨_, rfl, ?_⟩; simp (disch := first | omega | assumption | rfl | (simp only [vcS] <;> omega) | fail) only [↓ptV_l, ↓vcA, vcB, ↓vcD, vcE, ↓reduceIte, Nat.reduceEqDiff, Nat.reduceAdd, Nat.reduceMul, Nat.reduceLeDiff, Int.reduceLE, Int.reduceLT, Int.reduceEq, Int.reduceToNat, Int.reduceAdd, Int.reduceSub, Int.reduceMul, Int.reduceNeg, reduceCtorEq, Option.bind_some, Option.map_some, List.length_cons, List.length_nil, vcM, List.getElem?_toArray, List.getElem?_cons_zero, List.getElem?_cons_succ])
    (refine W_at c12_ok ?_; refine ⟨_, rfl, ?_⟩; simp (disch := first | omega | assumption | rfl | (simp only [vcS] <;> omega) | fail) only [↓ptV_l, ↓vcA, vcB, ↓vcD, vcE, ↓reduceIte, Nat.reduceEqDiff, Nat.reduceAdd, Nat.reduceMul, Nat.reduceLeDiff, Int.reduceLE, Int.reduceLT, Int.reduceEq, Int.reduceToNat, Int.reduceAdd, Int.reduceSub, Int.reduceMul, Int.reduceNeg, reduceCtorEq, Option.bind_some, Option.map_some, List.length_cons, List.length_nil, vcM, List.getElem?_toArray, List.getElem?_cons_zero, List.getElem?_cons_succ, d4, txC_1, hvi, c3, Int.toNat_natCast])
    obtain ⟨hw1, hP1⟩ := hP.script hvi hj0 hpl (SR.nil w.heap.size wj)
    have h81 : (wj.setCell ⟨g, oo + j * 36 + 33, none⟩ (.slice none 0 0)).heap[p8]? = some (.cells c8 36 (0, 0)) := ((Keep.refl (fun y => y = g) wj).setCell _ fun _ => rfl).at h8 hp8
    (refine W_at c12_ok ?_; refine ⟨_, rfl, ?_⟩; simp (disch := first | omega | assumption | rfl | (simp only [vcS] <;> omega) | fail) only [↓ptV_l, ↓vcA, vcB, ↓vcD, vcE, ↓reduceIte, Nat.reduceEqDiff, Nat.reduceAdd, Nat.reduceMul, Nat.reduceLeDiff, Int.reduceLE, Int.reduceLT, Int.reduceEq, Int.reduceToNat, Int.reduceAdd, Int.reduceSub, Int.reduceMul, Int.reduceNeg, reduceCtorEq, Option.bind_some, Option.map_some, List.length_cons, List.length_nil, vcM, List.getElem?_toArray, List.getElem?_cons_zero, List.getElem?_cons_succ])
    refine ⟨hw1, ?_⟩
    generalize World.setCell _ _ _ = w1 at hP1 h81 ⊢
    rw [hlj] at hP1
    generalize hl1 : li.set j { t.ins[j]'(by omega) with script := [] } = l1 at hP1
    have hl1l : l1.length = li.length := by rw [← hl1, List.length_set]
    have hl1j : l1[j]'(by omega) = { t.ins[j]'(by omega) with script := [] } := by
      subst hl1
      rw [List.getElem_set_self]
    have hl1a : ∀ a (h : a < l1.length) (h' : a < t.ins.length), a ≠ j → l1[a] = if a < j then legIn i bs o a t.ins[a] else t.ins[a] := fun a h h' ha => by
      subst hl1
      rw [List.getElem_set_ne (by omega)]
      exact hli a (by omega) h'
    -- the next round
    have next : ∀ w2 l2 tl, l2.length = t.ins.length → (∀ (h : j < l2.length), l2[j] = legIn i bs o j (t.ins[j]'(by omega))) → (∀ a (h : a < l2.length) (h' : a < l1.length), a ≠ j → l2[a] = l1[a]) → LS w w2 p4 t vi vo l2 lo → w2.heap[p8]? = some (.cells c8 36 (0, 0)) →
        W Try.prog Q 12 23 ((1, .int .i64 (i : Nat)) :: (2, x) :: (3, .int .u8 kind) :: (4, .pointer (some ⟨p4, 0, none⟩)) :: (8, .pointer (some ⟨p8, 0, none⟩)) :: (9, .int .u8 o) :: (10, .bool al) :: (45, .int .i64 (t.ins.length : Nat)) :: (46, .int .i64 ((j + 1 : Nat) : Int)) :: tl) w2 := by
      intro w2 l2 tl hl2 hj2 ha2 hP2 h82
      (refine W_at c12_ok ?_; refine ⟨_, rfl, ?_⟩; simp (disch := first | omega | assumption | rfl | (simp only [vcS] <;> omega) | fail) only [↓ptV_l, ↓vcA, vcB, ↓vcD, vcE, ↓reduceIte, Nat.reduceEqDiff, Nat.reduceAdd, Nat.reduceMul, Nat.reduceLeDiff, Int.reduceLE, Int.reduceLT, Int.reduceEq, Int.reduceToNat, Int.reduceAdd, Int.reduceSub, Int.reduceMul, Int.reduceNeg, reduceCtorEq, Option.bind_some, Option.map_some, List.length_cons, List.length_nil, vcM, List.getElem?_toArray, List.getElem?_cons_zero, List.getElem?_cons_succ])
      refine ih (j + 1) w2 l2 _ (by omega) hl2 (fun a h h' => ?_) hP2 h82
      by_cases haj : a = j
      · subst haj
        rw [if_pos (by omega)]; exact hj2 h
      · rw [ha2 a h (by omega) haj, hl1a a (by omega) h' haj]
        by_cases hlt : a < j
        · rw [if_pos hlt, if_pos (by omega)]
        · rw [if_neg hlt, if_neg (by omega)]
    have hpl1 : (l1[j]'(by omega)).prev.length = 32 := by rw [hl1j]; exact (hok.ins _ (List.getElem_mem _)).len
    obtain ⟨g2, oo2, cap2, c2, hvi2, _, _, hm2, cur2, hg2⟩ := ListN.at hP1.ins (i := j) (by omega)
    have hgo : g2 = g ∧ oo2 = oo := by
      rw [hvi] at hvi2
      injection hvi2 with e1
      injection e1 with e1
      injection e1 with e1 e2
      exact ⟨e1.symm, e2.symm⟩
    obtain ⟨rfl, rfl⟩ := hgo
    by_cases hji : j = i
    · subst hji
      have hSx : SR w.heap.size w1 x bs := Rd.sr hx hP1.ext
      obtain ⟨hw2, hP2⟩ := hP1.script hvi (by omega) hpl1 hSx
      have h82 : (w1.setCell ⟨g2, oo2 + j * 36 + 33, none⟩ x).heap[p8]? = some (.cells c8 36 (0, 0)) := ((Keep.refl (fun y => y = g2) w1).setCell _ fun _ => rfl).at h81 hp8
      (refine W_at c12_ok ?_; refine ⟨_, rfl, ?_⟩; simp (disch := first | omega | assumption | rfl | (simp only [vcS] <;> omega) | fail) only [↓ptV_l, ↓vcA, vcB, ↓vcD, vcE, ↓reduceIte, Nat.reduceEqDiff, Nat.reduceAdd, Nat.reduceMul, Nat.reduceLeDiff, Int.reduceLE, Int.reduceLT, Int.reduceEq, Int.reduceToNat, Int.reduceAdd, Int.reduceSub, Int.reduceMul, Int.reduceNeg, reduceCtorEq, Option.bind_some, Option.map_some, List.length_cons, List.length_nil, vcM, List.getElem?_toArray, List.getElem?_cons_zero, List.getElem?_cons_succ])
      (refine W_at c12_ok ?_; refine ⟨_, rfl, ?_⟩; simp (disch := first | omega | assumption | rfl | (simp only [vcS] <;> omega) | fail) only [↓ptV_l, ↓vcA, vcB, ↓vcD, vcE, ↓reduceIte, Nat.reduceEqDiff, Nat.reduceAdd, Nat.reduceMul, Nat.reduceLeDiff, Int.reduceLE, Int.reduceLT, Int.reduceEq, Int.reduceToNat, Int.reduceAdd, Int.reduceSub, Int.reduceMul, Int.reduceNeg, reduceCtorEq, Option.bind_some, Option.map_some, List.length_cons, List.length_nil, vcM, List.getElem?_toArray, List.getElem?_cons_zero, List.getElem?_cons_succ])
      have hx1 := hx.one
      (refine W_at c12_ok ?_; refine ⟨_, rfl, ?_⟩; simp (disch := first | omega | assumption | rfl | (simp only [vcS] <;> omega) | fail) only [↓ptV_l, ↓vcA, vcB, ↓vcD, vcE, ↓reduceIte, Nat.reduceEqDiff, Nat.reduceAdd, Nat.reduceMul, Nat.reduceLeDiff, Int.reduceLE, Int.reduceLT, Int.reduceEq, Int.reduceToNat, Int.reduceAdd, Int.reduceSub, Int.reduceMul, Int.reduceNeg, reduceCtorEq, Option.bind_some, Option.map_some, List.length_cons, List.length_nil, vcM, List.getElem?_toArray, List.getElem?_cons_zero, List.getElem?_cons_succ, hx1])
      refine ⟨hw2, ?_⟩
      (refine W_at c12_ok ?_; refine ⟨_, rfl, ?_⟩; simp (disch := first | omega | assumption | rfl | (simp only [vcS] <;> omega) | fail) only [↓ptV_l, ↓vcA, vcB, ↓vcD, vcE, ↓reduceIte, Nat.reduceEqDiff, Nat.reduceAdd, Nat.reduceMul, Nat.reduceLeDiff, Int.reduceLE, Int.reduceLT, Int.reduceEq, Int.reduceToNat, Int.reduceAdd, Int.reduceSub, Int.reduceMul, Int.reduceNeg, reduceCtorEq, Option.bind_some, Option.map_some, List.length_cons, List.length_nil, vcM, List.getElem?_toArray, List.getElem?_cons_zero, List.getElem?_cons_succ, wi])
      refine next _ _ _ (by rw [List.length_set]; omega) (fun h => ?_) (fun a h h' ha => ?_) hP2 h82
      · rw [List.getElem_set_self, hl1j, legIn, if_pos rfl]
      · rw [List.getElem_set_ne (by omega)]
    · have hji' : ¬ ((j : Int) = (i : Int)) := by omega
      (refine W_at c12_ok ?_; refine ⟨_, rfl, ?_⟩; simp (disch := first | omega | assumption | rfl | (simp only [vcS] <;> omega) | fail) only [↓ptV_l, ↓vcA, vcB, ↓vcD, vcE, ↓reduceIte, Nat.reduceEqDiff, Nat.reduceAdd, Nat.reduceMul, Nat.reduceLeDiff, Int.reduceLE, Int.reduceLT, Int.reduceEq, Int.reduceToNat, Int.reduceAdd, Int.reduceSub, Int.reduceMul, Int.reduceNeg, reduceCtorEq, Option.bind_some, Option.map_some, List.length_cons, List.length_nil, vcM, List.getElem?_toArray, List.getElem?_cons_zero, List.getElem?_cons_succ, hji'])
      (refine W_at c12_ok ?_; refine ⟨_, rfl, ?_⟩; simp (disch := first | omega | assumption | rfl | (simp only [vcS] <;> omega) | fail) only [↓ptV_l, ↓vcA, vcB, ↓vcD, vcE, ↓reduceIte, Nat.reduceEqDiff, Nat.reduceAdd, Nat.reduceMul, Nat.reduceLeDiff, Int.reduceLE, Int.reduceLT, Int.reduceEq, Int.reduceToNat, Int.reduceAdd, Int.reduceSub, Int.reduceMul, Int.reduceNeg, reduceCtorEq, Option.bind_some, Option.map_some, List.length_cons, List.length_nil, vcM, List.getElem?_toArray, List.getElem?_cons_zero, List.getElem?_cons_succ])
      have seqs : (o = 2 ∨ o = 3) → ∀ tl, W Try.prog Q 12 26 ((1, .int .i64 (i : Nat)) :: (2, x) :: (3, .int .u8 kind) :: (4, .pointer (some ⟨p4, 0, none⟩)) :: (8, .pointer (some ⟨p8, 0, none⟩)) :: (9, .int .u8 o) :: (10, .bool al) :: (12, .pointer (some ⟨g2, oo2 + j * 36, none⟩)) :: (45, .int .i64 (t.ins.length : Nat)) :: (46, .int .i64 (j : Nat)) :: tl) w1 := by
        intro ho tl
        obtain ⟨hw2, hP2⟩ := hP1.seq hvi (i := j) (by omega) hpl1 0
        have h82 : (w1.setCell ⟨g2, oo2 + j * 36 + 34, none⟩ (.int .u32 0)).heap[p8]? = some (.cells c8 36 (0, 0)) := ((Keep.refl (fun y => y = g2) w1).setCell _ fun _ => rfl).at h81 hp8
        (refine W_at c12_ok ?_; refine ⟨_, rfl, ?_⟩; simp (disch := first | omega | assumption | rfl | (simp only [vcS] <;> omega) | fail) only [↓ptV_l, ↓vcA, vcB, ↓vcD, vcE, ↓reduceIte, Nat.reduceEqDiff, Nat.reduceAdd, Nat.reduceMul, Nat.reduceLeDiff, Int.reduceLE, Int.reduceLT, Int.reduceEq, Int.reduceToNat, Int.reduceAdd, Int.reduceSub, Int.reduceMul, Int.reduceNeg, reduceCtorEq, Option.bind_some, Option.map_some, List.length_cons, List.length_nil, vcM, List.getElem?_toArray, List.getElem?_cons_zero, List.getElem?_cons_succ])
        refine ⟨hw2, ?_⟩
        (refine W_at c12_ok ?_; refine ⟨_, rfl, ?_⟩; simp (disch := first | omega | assumption | rfl | (simp only [vcS] <;> omega) | fail) only [↓ptV_l, ↓vcA, vcB, ↓vcD, vcE, ↓reduceIte, Nat.reduceEqDiff, Nat.reduceAdd, Nat.reduceMul, Nat.reduceLeDiff, Int.reduceLE, Int.reduceLT, Int.reduceEq, Int.reduceToNat, Int.reduceAdd, Int.reduceSub, Int.reduceMul, Int.reduceNeg, reduceCtorEq, Option.bind_some, Option.map_some, List.length_cons, List.length_nil, vcM, List.getElem?_toArray, List.getElem?_cons_zero, List.getElem?_cons_succ, wi])
        refine next _ _ _ (by rw [List.length_set]; omega) (fun h => ?_) (fun a h h' ha => ?_) hP2 h82
        · rw [List.getElem_set_self, hl1j, legIn, if_neg hji, if_pos ho]
        · rw [List.getElem_set_ne (by omega)]
      by_cases h2 : o = 2
      · have h2' : decide (o = 2) = true := decide_eq_true h2
        (refine W_at c12_ok ?_; refine ⟨_, rfl, ?_⟩; simp (disch := first | omega | assumption | rfl | (simp only [vcS] <;> omega) | fail) only [↓ptV_l, ↓vcA, vcB, ↓vcD, vcE, ↓reduceIte, Nat.reduceEqDiff, Nat.reduceAdd, Nat.reduceMul, Nat.reduceLeDiff, Int.reduceLE, Int.reduceLT, Int.reduceEq, Int.reduceToNat, Int.reduceAdd, Int.reduceSub, Int.reduceMul, Int.reduceNeg, reduceCtorEq, Option.bind_some, Option.map_some, List.length_cons, List.length_nil, vcM, List.getElem?_toArray, List.getElem?_cons_zero, List.getElem?_cons_succ, h2'])
        (refine W_at c12_ok ?_; refine ⟨_, rfl, ?_⟩; simp (disch := first | omega | assumption | rfl | (simp only [vcS] <;> omega) | fail) only [↓ptV_l, ↓vcA, vcB, ↓vcD, vcE, ↓reduceIte, Nat.reduceEqDiff, Nat.reduceAdd, Nat.reduceMul, Nat.reduceLeDiff, Int.reduceLE, Int.reduceLT, Int.reduceEq, Int.reduceToNat, Int.reduceAdd, Int.reduceSub, Int.reduceMul, Int.reduceNeg, reduceCtorEq, Option.bind_some, Option.map_some, List.length_cons, List.length_nil, vcM, List.getElem?_toArray, List.getElem?_cons_zero, List.getElem?_cons_succ])
        exact seqs (.inl h2) _
      · have h2' : decide (o = 2) = false := decide_eq_false h2
        by_cases h3 : o = 3
        · have h3' : decide (o = 3) = true := decide_eq_true h3
          (refine W_at c12_ok ?_; refine ⟨_, rfl, ?_⟩; simp (disch := first | omega | assumption | rfl | (simp only [vcS] <;> omega) | fail) only [↓ptV_l, ↓vcA, vcB, ↓vcD, vcE, ↓reduceIte, Nat.reduceEqDiff, Nat.reduceAdd, Nat.reduceMul, Nat.reduceLeDiff, Int.reduceLE, Int.reduceLT, Int.reduceEq, Int.reduceToNat, Int.reduceAdd, Int.reduceSub, Int.reduceMul, Int.reduceNeg, reduceCtorEq, Option.bind_some, Option.map_some, List.length_cons, List.length_nil, vcM, List.getElem?_toArray, List.getElem?_cons_zero, List.getElem?_cons_succ, h2', h3'])
          (refine W_at c12_ok ?_; refine ⟨_, rfl, ?_⟩; simp (disch := first | omega | assumption | rfl | (simp only [vcS] <;> omega) | fail) only [↓ptV_l, ↓vcA, vcB, ↓vcD, vcE, ↓reduceIte, Nat.reduceEqDiff, Nat.reduceAdd, Nat.reduceMul, Nat.reduceLeDiff, Int.reduceLE, Int.reduceLT, Int.reduceEq, Int.reduceToNat, Int.reduceAdd, Int.reduceSub, Int.reduceMul, Int.reduceNeg, reduceCtorEq, Option.bind_some, Option.map_some, List.length_cons, List.length_nil, vcM, List.getElem?_toArray, List.getElem?_cons_zero, List.getElem?_cons_succ])
          exact seqs (.inr h3) _
        · have h3' : decide (o = 3) = false := decide_eq_false h3
          (refine W_at c12_ok ?_; refine ⟨_, rfl, ?_⟩; simp (disch := first | omega | assumption | rfl | (simp only [vcS] <;> omega) | fail) only [↓ptV_l, ↓vcA, vcB, ↓vcD, vcE, ↓reduceIte, Nat.reduceEqDiff, Nat.reduceAdd, Nat.reduceMul, Nat.reduceLeDiff, Int.reduceLE, Int.reduceLT, Int.reduceEq, Int.reduceToNat, Int.reduceAdd, Int.reduceSub, Int.reduceMul, Int.reduceNeg, reduceCtorEq, Option.bind_some, Option.map_some, List.length_cons, List.length_nil, vcM, List.getElem?_toArray, List.getElem?_cons_zero, List.getElem?_cons_succ, h2', h3'])
          (refine W_at c12_ok ?_; refine ⟨_, rfl, ?_⟩; simp (disch := first | omega | assumption | rfl | (simp only [vcS] <;> omega) | fail) only [↓ptV_l, ↓vcA, vcB, ↓vcD, vcE, ↓reduceIte, Nat.reduceEqDiff, Nat.reduceAdd, Nat.reduceMul, Nat.reduceLeDiff, Int.reduceLE, Int.reduceLT, Int.reduceEq, Int.reduceToNat, Int.reduceAdd, Int.reduceSub, Int.reduceMul, Int.reduceNeg, reduceCtorEq, Option.bind_some, Option.map_some, List.length_cons, List.length_nil, vcM, List.getElem?_toArray, List.getElem?_cons_zero, List.getElem?_cons_succ])
          (refine W_at c12_ok ?_; refine ⟨_, rfl, ?_⟩; simp (disch := first | omega | assumption | rfl | (simp only [vcS] <;> omega) | fail) only [↓ptV_l, ↓vcA, vcB, ↓vcD, vcE, ↓reduceIte, Nat.reduceEqDiff, Nat.reduceAdd, Nat.reduceMul, Nat.reduceLeDiff, Int.reduceLE, Int.reduceLT, Int.reduceEq, Int.reduceToNat, Int.reduceAdd, Int.reduceSub, Int.reduceMul, Int.reduceNeg, reduceCtorEq, Option.bind_some, Option.map_some, List.length_cons, List.length_nil, vcM, List.getElem?_toArray, List.getElem?_cons_zero, List.getElem?_cons_succ, wi])
          refine next w1 l1 _ (by omega) (fun h => ?_) (fun a h h' ha => rfl) hP1 h81
          have ho : ¬ (o = 2 ∨ o = 3) := by omega
          rw [hl1j, legIn, if_neg hji, if_neg ho]
end Go.Proofs
