/- Laws that the last text of this claim uses, part 4: written for it, merged by program. -/
import Derived.Test.YtmbjokhekfiihaaQC3
set_option linter.unusedSimpArgs false
set_option linter.unusedVariables false
set_option linter.constructorNameAsVariable false
namespace Go.Proofs
open Go.Vc
set_option maxRecDepth 10000

theorem ListN.setc {α : Type} {R : Nat → World → Array Value → α → Prop} {T size m : Nat} {w : World} {v : Value} {l : List α} (h : ListN R T size m w v l) {g o n cap i j : Nat} (he : v = .slice (some ⟨g, o, none⟩) n cap) (hi : i < l.length) (hj : j < size) (val : Value) (x' : α)
    (hnew : ∀ c, R m w c l[i] → R m (w.setCell ⟨g, o + i * size + j, none⟩ val) (c.setIfInBounds j val) x') (hR : ∀ c x, R m w c x → R m (w.setCell ⟨g, o + i * size + j, none⟩ val) c x) :
    wr1 w g (o + i * size + j) ∧ ListN R T size m (w.setCell ⟨g, o + i * size + j, none⟩ val) v (l.set i x') := by
  obtain ⟨cs, h1, h2, h3⟩ := h
  obtain ⟨g', o', cap', e, hb, hw, hO⟩ := h2.setc (e := i) (j := j) (by omega) hj val
  rw [he] at e
  injection e with e1 e2 e3
  injection e1 with e1
  injection e1 with e4 e5
  subst e4 e5
  refine ⟨hw, cs.set i (cs[i].setIfInBounds j val), by simp [h1], hO, fun k a b => ?_⟩
  rw [List.length_set] at a b
  by_cases hk : i = k
  · subst hk
    rw [List.getElem_set_self, List.getElem_set_self]
    exact hnew _ (h3 i (by omega) hi)
  · rw [List.getElem_set_ne hk, List.getElem_set_ne hk]
    exact hR _ _ (h3 k a b)
theorem ListN.at {α : Type} {R : Nat → World → Array Value → α → Prop} {T size m : Nat} {w : World} {v : Value} {l : List α} (h : ListN R T size m w v l) {i : Nat} (hi : i < l.length) :
    ∃ g o cap c, v = .slice (some ⟨g, o, none⟩) l.length cap ∧ rdO w.heap[g]? (o + i * size) size = some c ∧ R m w c l[i] ∧ m ≤ g ∧ ∃ cur, w.heap[g]? = some (.cells cur T (0, 0)) := by
  obtain ⟨cs, h1, h2, h3⟩ := h
  obtain ⟨g, o, cap, cur, e, hg, hr⟩ := h2.at (j := i) (by omega)
  rw [h1] at e
  exact ⟨g, o, cap, cs[i], e, hr, h3 i (by omega) hi, (h2.blk (g := g) (by rw [e]; rfl)).1, cur, hg⟩
theorem ListN.len {α : Type} {R : Nat → World → Array Value → α → Prop} {T size m : Nat} {w : World} {v : Value} {l : List α} (h : ListN R T size m w v l) : lenR v = some (.int .i64 (l.length : Nat)) := by
  obtain ⟨cs, h1, h2, _⟩ := h
  rw [h2.len, h1]
theorem ListN.is {α : Type} {R : Nat → World → Array Value → α → Prop} {T size m : Nat} {w : World} {v : Value} {l : List α} (h : ListN R T size m w v l) : ∃ q c, v = .slice q l.length c ∧ l.length ≤ c := by
  obtain ⟨cs, h1, h2, _⟩ := h
  obtain ⟨q, c, e, hc⟩ := h2.is
  exact ⟨q, c, by rw [e, h1], by omega⟩
theorem ListN.take {α : Type} {R : Nat → World → Array Value → α → Prop} {T size m n c : Nat} {w : World} {q : Option Addr} {l : List α} (h : ListN R T size m w (.slice q n c) l) {k : Nat} (hk : k ≤ l.length) : ListN R T size m w (.slice q k c) (l.take k) := by
  obtain ⟨cs, h1, h2, h3⟩ := h
  refine ⟨cs.take k, by simp [h1], h2.take (by omega), fun i a b => ?_⟩
  rw [List.length_take] at a b
  rw [List.getElem_take, List.getElem_take]
  exact h3 i (by omega) (by omega)
def IG (m : Nat) (w : World) (c : Array Value) (x : TxI) : Prop := ∃ sv wv n, c = iC x sv wv ∧ B5 w sv x.script ∧ GR m w wv n ∧ n * 24 ≤ 140737488355328
def OG (_ : Nat) (w : World) (c : Array Value) (y : TxO) : Prop := ∃ sv, c = oC y sv ∧ B5 w sv y.script
theorem IG.keepT {m : Nat} {S : Nat → Prop} {w w' : World} {c : Array Value} {x : TxI} (h : IG m w c x) (k : Keep S w w') (hS : ∀ g, S g → ∀ c, w.heap[g]? ≠ some (.cells c 5 (0, 0)) ∧ w.heap[g]? ≠ some (.cells c 27 (0, 0))) : IG m w' c x := by
  obtain ⟨sv, wv, n, h1, h2, h3, h4⟩ := h
  exact ⟨sv, wv, n, h1, h2.keepT k fun g hs c => (hS g hs c).1, h3.keepT k hS, h4⟩
theorem OG.keepT {m : Nat} {S : Nat → Prop} {w w' : World} {c : Array Value} {y : TxO} (h : OG m w c y) (k : Keep S w w') (hS : ∀ g, S g → ∀ c, w.heap[g]? ≠ some (.cells c 5 (0, 0))) : OG m w' c y := by
  obtain ⟨sv, h1, h2⟩ := h
  exact ⟨sv, h1, h2.keepT k hS⟩
/-- What 'Few' has in its hands. -/
structure FwS (w wj : World) (p3 p6 : Nat) (t : TxV) (vi vo : Value) (li : List TxI) (lo : List TxO) : Prop where
  ext : Ext w wj
  c3 : wj.heap[p3]? = some (.cells (txC t vi vo) 26 (0, 0))
  c6 : ∃ c, wj.heap[p6]? = some (.cells c 26 (0, 0)) ∧ c.size = 4
  ins : ListN IG 50 36 w.heap.size wj vi li
  outs : ListN OG 54 2 w.heap.size wj vo lo
  l3 : w.heap.size ≤ p3
  l6 : w.heap.size ≤ p6
  ne : p3 ≠ p6
  okI : ∀ x ∈ li, x.Ok
  okO : ∀ y ∈ lo, y.Ok
section
variable {w wj w' : World} {p3 p6 : Nat} {t : TxV} {vi vo : Value} {li : List TxI} {lo : List TxO}
theorem FwS.keep (h : FwS w wj p3 p6 t vi vo li lo) (k : Ext wj w') : FwS w w' p3 p6 t vi vo li lo := by
  obtain ⟨c, h2, h3⟩ := h.c6
  exact ⟨h.ext.ext k, k.at h.c3 (fun h => h), ⟨c, k.at h2 (fun h => h), h3⟩, ListN.keepT h.ins k (fun _ h => h.elim) fun _ _ h => IG.keepT h k fun _ h => h.elim, ListN.keepT h.outs k (fun _ h => h.elim) fun _ _ h => OG.keepT h k fun _ h => h.elim, h.l3, h.l6, h.ne, h.okI, h.okO⟩
theorem ne_T {g : Nat} {c : Array Value} {T T' : TypeId} (h : w.heap[g]? = some (.cells c T (0, 0))) (hT : T ≠ T') : ∀ c', w.heap[g]? ≠ some (.cells c' T' (0, 0)) := fun c' e => by rw [h] at e; injection e with e; injection e with _ e; exact hT e
/-- A step that changes one block, which is the caller's own. -/
theorem FwS.put1 (h : FwS w wj p3 p6 t vi vo li lo) {v' : Value} {l' : List TxI} (hv : ListN IG 50 36 w.heap.size wj v' l') (hs : ∀ x ∈ l', x ∈ li) : wr1 wj p3 1 ∧ FwS w (wj.setCell ⟨p3, 1, none⟩ v') p3 p6 t v' vo l' lo := by
  have hk : Keep (fun g => g = p3) wj (wj.setCell ⟨p3, 1, none⟩ v') := (Keep.refl _ wj).setCell _ fun _ => rfl
  have n5 := ne_T (T' := 5) h.c3 (by decide)
  have n27 := ne_T (T' := 27) h.c3 (by decide)
  have n50 := ne_T (T' := 50) h.c3 (by decide)
  have n54 := ne_T (T' := 54) h.c3 (by decide)
  obtain ⟨c, h2, h3⟩ := h.c6
  have l3 := h.l3
  have ne := h.ne
  exact ⟨wr1_of h.c3 (by rw [txC_sz]; decide), h.ext.trans hk fun g hg e => by omega, by rw [heap_setCell_eq h.c3]; rfl, ⟨c, hk.at h2 (by omega), h3⟩,
    ListN.keepT hv hk (fun g hg c => by subst hg; exact n50 c) fun _ _ hR => IG.keepT hR hk fun g hg c => by subst hg; exact ⟨n5 c, n27 c⟩,
    ListN.keepT h.outs hk (fun g hg c => by subst hg; exact n54 c) fun _ _ hR => OG.keepT hR hk fun g hg c => by subst hg; exact n5 c, h.l3, h.l6, h.ne, fun x hx => h.okI x (hs x hx), h.okO⟩
theorem FwS.put2 (h : FwS w wj p3 p6 t vi vo li lo) {v' : Value} {l' : List TxO} (hv : ListN OG 54 2 w.heap.size wj v' l') (hs : ∀ x ∈ l', x ∈ lo) : wr1 wj p3 2 ∧ FwS w (wj.setCell ⟨p3, 2, none⟩ v') p3 p6 t vi v' li l' := by
  have hk : Keep (fun g => g = p3) wj (wj.setCell ⟨p3, 2, none⟩ v') := (Keep.refl _ wj).setCell _ fun _ => rfl
  have n5 := ne_T (T' := 5) h.c3 (by decide)
  have n27 := ne_T (T' := 27) h.c3 (by decide)
  have n50 := ne_T (T' := 50) h.c3 (by decide)
  have n54 := ne_T (T' := 54) h.c3 (by decide)
  obtain ⟨c, h2, h3⟩ := h.c6
  have l3 := h.l3
  have ne := h.ne
  exact ⟨wr1_of h.c3 (by rw [txC_sz]; decide), h.ext.trans hk fun g hg e => by omega, by rw [heap_setCell_eq h.c3]; rfl, ⟨c, hk.at h2 (by omega), h3⟩,
    ListN.keepT h.ins hk (fun g hg c => by subst hg; exact n50 c) fun _ _ hR => IG.keepT hR hk fun g hg c => by subst hg; exact ⟨n5 c, n27 c⟩,
    ListN.keepT hv hk (fun g hg c => by subst hg; exact n54 c) fun _ _ hR => OG.keepT hR hk fun g hg c => by subst hg; exact n5 c, h.l3, h.l6, h.ne, h.okI, fun x hx => h.okO x (hs x hx)⟩
/-- A cell of an input is written. -/
theorem FwS.setI (h : FwS w wj p3 p6 t vi vo li lo) {g o n cap i j : Nat} (he : vi = .slice (some ⟨g, o, none⟩) n cap) (hi : i < li.length) (hj : j < 36) (val : Value) (x' : TxI) (hx' : x'.Ok)
    (hnew : ∀ w' c, Keep (fun y => y = g) wj w' → (∀ c', wj.heap[g]? ≠ some (.cells c' 5 (0, 0)) ∧ wj.heap[g]? ≠ some (.cells c' 27 (0, 0))) → IG w.heap.size wj c li[i] → IG w.heap.size w' (c.setIfInBounds j val) x') :
    wr1 wj g (o + i * 36 + j) ∧ FwS w (wj.setCell ⟨g, o + i * 36 + j, none⟩ val) p3 p6 t vi vo (li.set i x') lo := by
  have hk : Keep (fun y => y = g) wj (wj.setCell ⟨g, o + i * 36 + j, none⟩ val) := (Keep.refl _ wj).setCell _ fun _ => rfl
  obtain ⟨hm, cur, hg⟩ := ListN.blkT h.ins (g := g) (by rw [he]; rfl)
  have n5 := ne_T (T' := 5) hg (by decide)
  have n27 := ne_T (T' := 27) hg (by decide)
  have n26 := ne_T (T' := 26) hg (by decide)
  have n54 := ne_T (T' := 54) hg (by decide)
  obtain ⟨c, h2, h3⟩ := h.c6
  obtain ⟨hw, hL⟩ := ListN.setc h.ins he hi hj val x' (fun c hc => hnew _ c hk (fun c' => ⟨n5 c', n27 c'⟩) hc) fun c x hR => IG.keepT hR hk fun g' hg' c => by subst hg'; exact ⟨n5 c, n27 c⟩
  refine ⟨hw, h.ext.trans hk fun y hy e => by omega, hk.at h.c3 fun e => n26 _ (e ▸ h.c3), ⟨c, hk.at h2 fun e => n26 _ (e ▸ h2), h3⟩, hL,
    ListN.keepT h.outs hk (fun g' hg' c => by subst hg'; exact n54 c) fun _ _ hR => OG.keepT hR hk fun g' hg' c => by subst hg'; exact n5 c, h.l3, h.l6, h.ne, fun x hx => ?_, h.okO⟩
  rcases List.mem_or_eq_of_mem_set hx with hx | rfl
  · exact h.okI x hx
  · exact hx'
theorem FwS.setO (h : FwS w wj p3 p6 t vi vo li lo) {g o n cap i j : Nat} (he : vo = .slice (some ⟨g, o, none⟩) n cap) (hi : i < lo.length) (hj : j < 2) (val : Value) (x' : TxO) (hx' : x'.Ok)
    (hnew : ∀ w' c, Keep (fun y => y = g) wj w' → (∀ c', wj.heap[g]? ≠ some (.cells c' 5 (0, 0))) → OG w.heap.size wj c lo[i] → OG w.heap.size w' (c.setIfInBounds j val) x') :
    wr1 wj g (o + i * 2 + j) ∧ FwS w (wj.setCell ⟨g, o + i * 2 + j, none⟩ val) p3 p6 t vi vo li (lo.set i x') := by
  have hk : Keep (fun y => y = g) wj (wj.setCell ⟨g, o + i * 2 + j, none⟩ val) := (Keep.refl _ wj).setCell _ fun _ => rfl
  obtain ⟨hm, cur, hg⟩ := ListN.blkT h.outs (g := g) (by rw [he]; rfl)
  have n5 := ne_T (T' := 5) hg (by decide)
  have n27 := ne_T (T' := 27) hg (by decide)
  have n26 := ne_T (T' := 26) hg (by decide)
  have n50 := ne_T (T' := 50) hg (by decide)
  obtain ⟨c, h2, h3⟩ := h.c6
  obtain ⟨hw, hL⟩ := ListN.setc h.outs he hi hj val x' (fun c hc => hnew _ c hk n5 hc) fun c x hR => OG.keepT hR hk fun g' hg' c => by subst hg'; exact n5 c
  refine ⟨hw, h.ext.trans hk fun y hy e => by omega, hk.at h.c3 fun e => n26 _ (e ▸ h.c3), ⟨c, hk.at h2 fun e => n26 _ (e ▸ h2), h3⟩, ListN.keepT h.ins hk (fun g' hg' c => by subst hg'; exact n50 c) fun _ _ hR => IG.keepT hR hk fun g' hg' c => by subst hg'; exact ⟨n5 c, n27 c⟩,
    hL, h.l3, h.l6, h.ne, h.okI, fun x hx => ?_⟩
  rcases List.mem_or_eq_of_mem_set hx with hx | rfl
  · exact h.okO x hx
  · exact hx'
/-- A row is written. -/
theorem FwS.setR (h : FwS w wj p3 p6 t vi vo li lo) {g0 idx : Nat} {c0 : Array Value} {x : Value} {b : List Int} (hm : w.heap.size ≤ g0) (h0 : wj.heap[g0]? = some (.cells c0 27 (0, 0))) (hi : idx < c0.size) (hx : B5 wj x b) :
    wr1 wj g0 idx ∧ FwS w (wj.setCell ⟨g0, idx, none⟩ x) p3 p6 t vi vo li lo := by
  have hk : Keep (fun y => y = g0) wj (wj.setCell ⟨g0, idx, none⟩ x) := (Keep.refl _ wj).setCell _ fun _ => rfl
  have n5 := ne_T (T' := 5) h0 (by decide)
  have n26 := ne_T (T' := 26) h0 (by decide)
  have n50 := ne_T (T' := 50) h0 (by decide)
  have n54 := ne_T (T' := 54) h0 (by decide)
  obtain ⟨c, h2, h3⟩ := h.c6
  refine ⟨wr1_of h0 hi, h.ext.trans hk fun y hy e => by omega, hk.at h.c3 fun e => n26 _ (e ▸ h.c3), ⟨c, hk.at h2 fun e => n26 _ (e ▸ h2), h3⟩, ListN.keepT h.ins hk (fun g' hg' c => by subst hg'; exact n50 c) fun _ _ hR => ?_,
    ListN.keepT h.outs hk (fun g' hg' c => by subst hg'; exact n54 c) fun _ _ hR => OG.keepT hR hk fun g' hg' c => by subst hg'; exact n5 c, h.l3, h.l6, h.ne, h.okI, h.okO⟩
  obtain ⟨sv, wv, n, k1, k2, k3, k4⟩ := hR
  exact ⟨sv, wv, n, k1, k2.keepT hk fun g' hg' c => by subst hg'; exact n5 c, k3.set h0 hx, k4⟩
end
end Go.Proofs
namespace Go.Proofs
open Go.Vc
set_option maxRecDepth 10000

/-- A transaction within bounds. -/
structure TxV.Lim (t : TxV) (n b : Nat) : Prop where
  ins : t.ins.length ≤ n
  outs : t.outs.length ≤ n
  inp : ∀ x ∈ t.ins, x.script.length ≤ b
  out : ∀ y ∈ t.outs, y.script.length ≤ b
theorem InN.ig {m : Nat} {w : World} {c : Array Value} {x : TxI} (h : InN m w c x) (hk : x.Ok) (hz : x.Sz) : IG m w c x := by
  obtain ⟨sv, wv, h1, h2, h3⟩ := h
  exact ⟨sv, wv, _, h1, h2.b5 hk.script hz.script, h3.gr fun p hp => ⟨hk.wit p hp, hz.item p hp⟩, hz.wit⟩
theorem OuN.og {m : Nat} {w : World} {c : Array Value} {y : TxO} (h : OuN m w c y) (hk : y.Ok) (hz : y.script.length ≤ 140737488355328) : OG m w c y := by
  obtain ⟨sv, h1, h2⟩ := h
  exact ⟨sv, h1, h2.b5 hk.script hz⟩
/-- What 'Few' hands back. -/
def IP (m : Nat) (w : World) (c : Array Value) (x : TxI) : Prop := ∃ sv wv, c = iC x sv wv ∧ B5 w sv x.script ∧ GP m w wv x.wit
structure TxT (m : Nat) (w : World) (iv ov : Value) (t : TxV) : Prop where
  ins : ListN IP 50 36 m w iv t.ins
  outs : ListN OG 54 2 m w ov t.outs
theorem IP.keepT {m : Nat} {S : Nat → Prop} {w w' : World} {c : Array Value} {x : TxI} (h : IP m w c x) (k : Keep S w w') (hS : ∀ g, S g → ∀ c, w.heap[g]? ≠ some (.cells c 5 (0, 0)) ∧ w.heap[g]? ≠ some (.cells c 27 (0, 0))) : IP m w' c x := by
  obtain ⟨sv, wv, h1, h2, h3⟩ := h
  exact ⟨sv, wv, h1, h2.keepT k fun g hs c => (hS g hs c).1, h3.keepT k hS⟩
theorem TxT.keepT {m : Nat} {S : Nat → Prop} {w w' : World} {iv ov : Value} {t : TxV} (h : TxT m w iv ov t) (k : Keep S w w') (hS : ∀ g, S g → ∃ c T, w.heap[g]? = some (.cells c T (0, 0)) ∧ T ≠ 5 ∧ T ≠ 27 ∧ T ≠ 50 ∧ T ≠ 54) : TxT m w' iv ov t := by
  have hn : ∀ g, S g → ∀ T' c', (T' = 5 ∨ T' = 27 ∨ T' = 50 ∨ T' = 54) → w.heap[g]? ≠ some (.cells c' T' (0, 0)) := fun g hg T' c' hT' e => by
    obtain ⟨c, T, hc, a1, a2, a3, a4⟩ := hS g hg
    rw [hc] at e
    injection e with e
    injection e with _ e
    subst e
    rcases hT' with h | h | h | h
    · exact a1 h
    · exact a2 h
    · exact a3 h
    · exact a4 h
  exact ⟨ListN.keepT h.ins k (fun g hg c => hn g hg _ c (.inr (.inr (.inl rfl)))) fun _ _ h => IP.keepT h k fun g hg c => ⟨hn g hg _ c (.inl rfl), hn g hg _ c (.inr (.inl rfl))⟩,
    ListN.keepT h.outs k (fun g hg c => hn g hg _ c (.inr (.inr (.inr rfl)))) fun _ _ h => OG.keepT h k fun g hg c => hn g hg _ c (.inl rfl)⟩
theorem IG.in {m : Nat} {w : World} {c : Array Value} {x : TxI} (h : IG m w c x) (hk : x.Ok) : ∃ ps, IP m w c { x with wit := ps } ∧ ({ x with wit := ps } : TxI).Ok ∧ ({ x with wit := ps } : TxI).Sz := by
  obtain ⟨sv, wv, n, h1, h2, h3, h4⟩ := h
  obtain ⟨ps, e1, e2, e3⟩ := h3.gp
  exact ⟨ps, ⟨sv, wv, h1, h2, e2⟩, ⟨hk.len, hk.prev, hk.idx, hk.script, hk.seq, fun b hb => (e3 b hb).1⟩, ⟨h2.2.2.1, by rw [e1]; exact h4, fun p hp => (e3 p hp).2⟩⟩
theorem ListN.imp {α : Type} {R R' : Nat → World → Array Value → α → Prop} {T size m m' : Nat} {w : World} {v : Value} {l : List α} (h : ListN R T size m w v l) (hm : m' ≤ m) (hR : ∀ c x, x ∈ l → R m w c x → R' m' w c x) : ListN R' T size m' w v l := by
  obtain ⟨cs, h1, h2, h3⟩ := h
  exact ⟨cs, h1, h2.base hm, fun i a b => hR _ _ (List.getElem_mem b) (h3 i a b)⟩
theorem N1.base {m m' : Nat} {w : World} {v : Value} {bs : List Int} (h : N1 m w v bs) (hm : m' ≤ m) : N1 m' w v bs := ⟨h.1, fun g hg => Nat.le_trans hm (h.2 g hg)⟩
theorem InN.base {m m' : Nat} {w : World} {c : Array Value} {x : TxI} (h : InN m w c x) (hm : m' ≤ m) : InN m' w c x := by
  obtain ⟨sv, wv, h1, h2, h3⟩ := h
  exact ⟨sv, wv, h1, h2.base hm, h3.base hm⟩
theorem OuN.base {m m' : Nat} {w : World} {c : Array Value} {y : TxO} (h : OuN m w c y) (hm : m' ≤ m) : OuN m' w c y := by
  obtain ⟨sv, h1, h2⟩ := h
  exact ⟨sv, h1, h2.base hm⟩
theorem OwnO.mx {w : World} {base el size : Nat} {v : Value} {ids : List (Array Value)} (h : OwnO w base el size v ids) : ids.length ≤ maxLen := by
  obtain ⟨_, ⟨_, rfl⟩ | ⟨g, o, cap, cur, e, hb, hg, hn, hcm, _⟩⟩ := h
  · exact Nat.zero_le _
  · omega
theorem FwS.fin {w wj w' : World} {p3 p6 : Nat} {t : TxV} {vi vo : Value} {li : List TxI} {lo : List TxO} (h : FwS w wj p3 p6 t vi vo li lo) (k : Keep (fun g => g = p6) wj w') :
    ∃ li' : List TxI, li'.length = li.length ∧ ListN IP 50 36 w.heap.size w' vi li' ∧ ListN OG 54 2 w.heap.size w' vo lo ∧ (∀ x ∈ li', x.Ok ∧ x.Sz) ∧ (∀ y ∈ lo, y.script.length ≤ 140737488355328) ∧ ∀ b, (∀ x ∈ li, x.script.length ≤ b) → ∀ x ∈ li', x.script.length ≤ b := by
  obtain ⟨c6, h6, _⟩ := h.c6
  have n5 := ne_T (T' := 5) h6 (by decide)
  have n27 := ne_T (T' := 27) h6 (by decide)
  have n50 := ne_T (T' := 50) h6 (by decide)
  have n54 := ne_T (T' := 54) h6 (by decide)
  have hI := ListN.keepT h.ins k (fun g hg c => by subst hg; exact n50 c) fun _ _ hR => IG.keepT hR k fun g hg c => by subst hg; exact ⟨n5 c, n27 c⟩
  have hO := ListN.keepT h.outs k (fun g hg c => by subst hg; exact n54 c) fun _ _ hR => OG.keepT hR k fun g hg c => by subst hg; exact n5 c
  obtain ⟨cs, a1, a2, a3⟩ := hI
  obtain ⟨ds, b1, b2, b3⟩ := hO
  obtain ⟨li', e1, e2⟩ := list_choose (p := fun i (x' : TxI) => ∀ (h1 : i < cs.length) (h2 : i < li.length), IP w.heap.size w' cs[i] x' ∧ x'.Ok ∧ x'.Sz ∧ x'.script = li[i].script) (List.range li.length) (fun i hi => by
    have hi := List.mem_range.1 hi
    obtain ⟨ps, f1, f2, f3⟩ := (a3 i (by omega) hi).in (h.okI _ (List.getElem_mem hi))
    exact ⟨_, fun _ _ => ⟨f1, f2, f3, rfl⟩⟩)
  rw [List.length_range] at e1
  have e3 : ∀ i (h1 : i < cs.length) (h2 : i < li.length) (h3 : i < li'.length), IP w.heap.size w' cs[i] li'[i] ∧ li'[i].Ok ∧ li'[i].Sz ∧ li'[i].script = li[i].script := fun i h1 h2 h3 => by
    have e := List.getElem_range (n := li.length) (j := i) (by simpa using h2)
    have := e2 i (by simpa using h2) h3
    rw [e] at this
    exact this h1 h2
  refine ⟨li', e1, ⟨cs, by omega, a2, fun i x y => (e3 i x (by omega) y).1⟩, ⟨ds, b1, b2, b3⟩, fun x hx => ?_, fun y hy => ?_, fun b hb x hx => ?_⟩
  · obtain ⟨i, hi, rfl⟩ := List.getElem_of_mem hx
    have := e3 i (by omega) (by omega) hi
    exact ⟨this.2.1, this.2.2.1⟩
  · obtain ⟨i, hi, rfl⟩ := List.getElem_of_mem hy
    obtain ⟨sv, r1, r2⟩ := b3 i (by omega) hi
    exact r2.2.2.1
  · obtain ⟨i, hi, rfl⟩ := List.getElem_of_mem hx
    have := e3 i (by omega) (by omega) hi
    rw [this.2.2.2]
    exact hb _ (List.getElem_mem _)
/-- The outputs' scripts one by one, and the end. -/
def FewQ (w : World) (n by' : Nat) : Ending → World → Prop := Ret fun u w' => ∃ t' iv' ov', u = .agg (txC t' iv' ov') ∧ TxT w.heap.size w' iv' ov' t' ∧ t'.Ok ∧ t'.Sz ∧ t'.Lim n by' ∧ Ext w w'
set_option maxHeartbeats 3200000 in
theorem few_outs (w : World) (p3 p6 : Nat) (t : TxV) (n by' : Nat) (hok : t.Ok) (hn : n ≤ 100) (hb : by' ≤ 100000) (vi : Value) (li : List TxI) (hli : li.length ≤ n) (hls : ∀ x ∈ li, x.script.length ≤ by') :
    ∀ (k i : Nat) (wj : World) (vo : Value) (lo : List TxO) (tl : Env), k + i = lo.length → lo.length ≤ n → FwS w wj p3 p6 t vi vo li lo → (∀ j (h : j < lo.length), j < i → lo[j].script.length ≤ by') →
      W Try.prog (FewQ w n by') 18 9 ((2, .int .i64 (by' : Nat)) :: (3, .pointer (some ⟨p3, 0, none⟩)) :: (6, .pointer (some ⟨p6, 0, none⟩)) :: (9, .int .i64 (i : Nat)) :: tl) wj := by
  intro k
  induction k with
  | zero =>
    intro i wj vo lo tl hi hlo hP hd
    have hil : ¬ ((i : Int) < (lo.length : Nat)) := by omega
    have d3 := hP.c3
    have hlen := ListN.len hP.outs
    obtain ⟨cc, d6, hcc⟩ := hP.c6
    have r4 : rdO (some (.cells (txC t vi vo) 26 (0, 0))) 0 4 = some (txC t vi vo) := rdO_all _ _ _ _ rfl
    have z4 := txC_sz t vi vo
    have o4 : okO (some (.cells cc 26 (0, 0))) 0 4 = True := by simp only [okO, hcc]; simp
    (refine W_at c18_ok ?_; refine ⟨_, rfl, ?_⟩; simp (disch := first | omega | assumption | rfl | (simp only [vcS] <;> omega) | fail) only [↓vcA, vcB, ↓reduceIte, Nat.reduceEqDiff, Option.bind_some, vcM, d3, txC_2, hlen, hil])
    (refine W_at c18_ok ?_; refine ⟨_, rfl, ?_⟩; simp (disch := first | omega | assumption | rfl | (simp only [vcS] <;> omega) | fail) only [↓vcA, vcB, ↓reduceIte, Nat.reduceEqDiff])
    (refine W_at c18_ok ?_; refine ⟨_, rfl, ?_⟩; simp (disch := first | omega | assumption | rfl | (simp only [vcS] <;> omega) | fail) only [↓ptV_l, ↓vcA, vcB, ↓reduceIte, Nat.reduceEqDiff, Option.bind_some, Option.map_some, vcM, d3, r4, z4, d6, o4])
    have hfl : flat (txC t vi vo) := by
      have a1 := ListN.one hP.ins
      have a2 := ListN.one hP.outs
      intro y hy; simp only [txC, List.mem_cons, List.not_mem_nil, or_false] at hy; rcases hy with rfl | rfl | rfl | rfl <;> first | rfl | assumption
    refine ⟨hfl, ?_⟩
    have hk : Keep (fun g => g = p6) wj (wj.putN p6 0 (txC t vi vo)) := (Keep.refl _ wj).putN _ fun _ => rfl
    have d9 : (wj.putN p6 0 (txC t vi vo)).heap[p6]? = some (.cells (txC t vi vo) 26 (0, 0)) := by
      rw [heap_putN_eq d6, splice_all (by rw [hcc, txC_sz])]
    obtain ⟨li', f1, f2, f3, f4, f5, f6⟩ := hP.fin hk
    have l6 := hP.l6
    have hE9 := hP.ext.trans hk fun g hg e => by omega
    (refine W_at c18_ok ?_; refine ⟨_, rfl, ?_⟩; simp (disch := first | omega | assumption | rfl | (simp only [vcS] <;> omega) | fail) only [↓vcA, vcB, ↓reduceIte, Option.bind_some, Option.map_some, vcM, d9, r4])
    refine ⟨_, rfl, ⟨t.ver, li', lo, t.lock⟩, vi, vo, rfl, ⟨f2, f3⟩, ⟨hok.ver, fun x hx => (f4 x hx).1, hP.okO, hok.lock⟩, ⟨by show li'.length * 96 ≤ _; omega, by show lo.length * 32 ≤ _; omega, fun x hx => (f4 x hx).2, f5⟩, ⟨by show li'.length ≤ n; omega, hlo, f6 by' hls, fun y hy => ?_⟩, hE9⟩
    obtain ⟨j, hj, rfl⟩ := List.getElem_of_mem hy
    have hj' : j < lo.length := hj
    exact hd j hj' (by omega)
  | succ k ih =>
    intro i wj vo lo tl hi hlo hP hd
    have hi0 : i < lo.length := by omega
    have hil : ((i : Int) < (lo.length : Nat)) := by omega
    have c3 : 0 ≤ (i : Int) ∧ (i : Int) < (lo.length : Nat) := by omega
    have d3 := hP.c3
    have hlen := ListN.len hP.outs
    obtain ⟨g, o, cap, c, hov, hrd, ⟨sv, rfl, hsv⟩, hm, cur, hg⟩ := ListN.at hP.outs hi0
    have q1 := rdO_cell hrd (j := 1) (by omega)
    have q1' : (oC lo[i] sv)[1]? = some sv := rfl
    rw [q1'] at q1
    have hsl := hsv.1.len
    have wi : IntKind.i64.wrap ((i : Int) + 1) = ((i + 1 : Nat) : Int) := wrap_i64 (by omega) (by omega)
    (refine W_at c18_ok ?_; refine ⟨_, rfl, ?_⟩; simp (disch := first | omega | assumption | rfl | (simp only [vcS] <;> omega) | fail) only [↓vcA, vcB, ↓reduceIte, Nat.reduceEqDiff, Option.bind_some, vcM, d3, txC_2, hlen, hil])
    (refine W_at c18_ok ?_; refine ⟨_, rfl, ?_⟩; simp (disch := first | omega | assumption | rfl | (simp only [vcS] <;> omega) | fail) only [↓vcA, vcB, ↓reduceIte, Nat.reduceEqDiff])
    (refine W_at c18_ok ?_; refine ⟨_, rfl, ?_⟩; simp (disch := first | omega | assumption | rfl | (simp only [vcS] <;> omega) | fail) only [↓vcA, vcB, ↓reduceIte, Nat.reduceEqDiff, Option.bind_some, vcM, d3, txC_2, hov, c3, Int.toNat_natCast, q1, hsl])
    by_cases hg4 : (by' : Int) < (lo[i].script.length : Nat)
    · obtain ⟨qs, cs, rfl, hcs⟩ := hsv.1.is
      have k1 : (0 : Int) ≤ (by' : Nat) ∧ ((by' : Nat) : Int) ≤ (cs : Nat) := by omega
      have hEd : Ext wj wj.drew := (Keep.refl _ wj).drew
      have hPd := hP.keep hEd
      have hcut := (hsv.keepT hEd fun _ h => h.elim).cut (k := by') (by omega)
      have hol := hP.okO _ (List.getElem_mem hi0)
      obtain ⟨hw, hP2⟩ := hPd.setO (j := 1) hov hi0 (by decide) (.slice qs by' cs) ⟨lo[i].val, lo[i].script.take by'⟩ ⟨hol.val, byt_take hol.script _⟩ (fun w' c hk hS hO => by
        obtain ⟨sv, rfl, hsv2⟩ := hO
        refine ⟨.slice qs by' cs, rfl, hcut.keepT hk fun g' hg' c => by subst hg'; exact hS c⟩)
      (refine W_at c18_ok ?_; refine ⟨_, rfl, ?_⟩; simp (disch := first | omega | assumption | rfl | (simp only [vcS] <;> omega) | fail) only [↓vcA, vcB, ↓reduceIte, Nat.reduceEqDiff, hg4])
      (refine W_at c18_ok ?_; refine ⟨_, rfl, ?_⟩; simp (disch := first | omega | assumption | rfl | (simp only [vcS] <;> omega) | fail) only [↓ptV_l, ↓vcA, vcB, ↓reduceIte, Nat.reduceEqDiff, Option.bind_some, Option.map_some, vcM, d3, txC_2, hov, c3, Int.toNat_natCast, q1, k1, Nat.sub_zero])
      refine ⟨hw, ?_⟩
      (refine W_at c18_ok ?_; refine ⟨_, rfl, ?_⟩; simp (disch := first | omega | assumption | rfl | (simp only [vcS] <;> omega) | fail) only [↓vcA, vcB, ↓reduceIte, Nat.reduceEqDiff, Option.bind_some, wi])
      (refine W_at c18_ok ?_; refine ⟨_, rfl, ?_⟩; simp (disch := first | omega | assumption | rfl | (simp only [vcS] <;> omega) | fail) only [vcB])
      refine ih (i + 1) _ vo _ _ (by rw [List.length_set]; omega) (by rw [List.length_set]; exact hlo) hP2 fun j hj hji => ?_
      rw [List.length_set] at hj
      by_cases hjj : i = j
      · subst hjj
        rw [List.getElem_set_self]
        show (lo[i].script.take by').length ≤ by'
        rw [List.length_take]; omega
      · rw [List.getElem_set_ne hjj]
        exact hd j hj (by omega)
    · (refine W_at c18_ok ?_; refine ⟨_, rfl, ?_⟩; simp (disch := first | omega | assumption | rfl | (simp only [vcS] <;> omega) | fail) only [↓vcA, vcB, ↓reduceIte, Nat.reduceEqDiff, hg4])
      (refine W_at c18_ok ?_; refine ⟨_, rfl, ?_⟩; simp (disch := first | omega | assumption | rfl | (simp only [vcS] <;> omega) | fail) only [↓vcA, vcB, ↓reduceIte, Nat.reduceEqDiff, Option.bind_some, wi])
      (refine W_at c18_ok ?_; refine ⟨_, rfl, ?_⟩; simp (disch := first | omega | assumption | rfl | (simp only [vcS] <;> omega) | fail) only [vcB])
      refine ih (i + 1) wj vo lo _ (by omega) hlo hP fun j hj hji => ?_
      by_cases hjj : j = i
      · subst hjj; omega
      · exact hd j hj (by omega)
theorem GR.len {m n : Nat} {w : World} {v : Value} (h : GR m w v n) : lenR v = some (.int .i64 (n : Nat)) := by
  rcases h with ⟨rfl, rfl⟩ | ⟨g, o, cap, cs, rfl, _⟩ <;> rfl
theorem GR.mx {m n : Nat} {w : World} {v : Value} (h : GR m w v n) : n ≤ maxLen := by
  rcases h with ⟨rfl, rfl⟩ | ⟨g, o, cap, cs, rfl, _, _, h, _⟩
  · exact Nat.zero_le _
  · exact h
set_option maxHeartbeats 3200000 in
theorem few_wits (w : World) (p3 p6 : Nat) (t : TxV) (n by' : Nat) (hb : by' ≤ 100000) (vi vo : Value) (li : List TxI) (lo : List TxO) (i : Nat) (hi0 : i < li.length) (hln : li.length ≤ 140737488355328) (g o cap : Nat) (hvi : vi = .slice (some ⟨g, o, none⟩) li.length cap) (x : TxI) (hxl : x.prev.length = 32) (sv wv : Value) (nw : Nat)
    (hdone : ∀ wj tl, FwS w wj p3 p6 t vi vo li lo → W Try.prog (FewQ w n by') 18 12 ((1, .int .i64 (n : Nat)) :: (2, .int .i64 (by' : Nat)) :: (3, .pointer (some ⟨p3, 0, none⟩)) :: (6, .pointer (some ⟨p6, 0, none⟩)) :: (7, .int .i64 (i : Nat)) :: tl) wj) :
    ∀ (k j : Nat) (wj : World) (tl : Env), k + j = nw → FwS w wj p3 p6 t vi vo li lo → rdO wj.heap[g]? (o + i * 36) 36 = some (iC x sv wv) → GR w.heap.size wj wv nw →
      W Try.prog (FewQ w n by') 18 19 ((1, .int .i64 (n : Nat)) :: (2, .int .i64 (by' : Nat)) :: (3, .pointer (some ⟨p3, 0, none⟩)) :: (6, .pointer (some ⟨p6, 0, none⟩)) :: (7, .int .i64 (i : Nat)) :: (8, .int .i64 (j : Nat)) :: tl) wj := by
  intro k
  have c3 : 0 ≤ (i : Int) ∧ (i : Int) < (li.length : Nat) := by omega
  induction k with
  | zero =>
    intro j wj tl hj hP hrd hG
    have hil : ¬ ((j : Int) < (nw : Nat)) := by omega
    have d3 := hP.c3
    have hlen := hG.len
    have q := rdO_cell hrd (j := 35) (by omega)
    rw [iC_35 hxl] at q
    (refine W_at c18_ok ?_; refine ⟨_, rfl, ?_⟩; simp (disch := first | omega | assumption | rfl | (simp only [vcS] <;> omega) | fail) only [↓vcA, vcB, ↓reduceIte, Nat.reduceEqDiff, Option.bind_some, vcM, d3, txC_1, hvi, c3, Int.toNat_natCast, q, hlen, hil])
    (refine W_at c18_ok ?_; refine ⟨_, rfl, ?_⟩; simp (disch := first | omega | assumption | rfl | (simp only [vcS] <;> omega) | fail) only [↓vcA, vcB, ↓reduceIte, Nat.reduceEqDiff])
    exact hdone wj _ hP
  | succ k ih =>
    intro j wj tl hj hP hrd hG
    have hil : ((j : Int) < (nw : Nat)) := by omega
    have d3 := hP.c3
    have hlen := hG.len
    have q := rdO_cell hrd (j := 35) (by omega)
    rw [iC_35 hxl] at q
    have hmx := hG.mx
    have hG0 := hG
    rcases hG with ⟨rfl, rfl⟩ | ⟨g1, o1, cap1, cs1, rfl, a1, a2, a3, a4, a5, a6⟩
    · omega
    obtain ⟨y, b, hy, hyb⟩ := a6 j (by omega)
    have hcy : cellO wj.heap[g1]? (o1 + j) = some y := by rw [a4, cellO_some]; exact hy
    have c4 : 0 ≤ (j : Int) ∧ (j : Int) < (nw : Nat) := by omega
    have hyl := hyb.1.len
    have e : maxLen = 9223372036854775807 := rfl
    have wi : IntKind.i64.wrap ((j : Int) + 1) = ((j + 1 : Nat) : Int) := wrap_i64 (by omega) (by omega)
    (refine W_at c18_ok ?_; refine ⟨_, rfl, ?_⟩; simp (disch := first | omega | assumption | rfl | (simp only [vcS] <;> omega) | fail) only [↓vcA, vcB, ↓reduceIte, Nat.reduceEqDiff, Option.bind_some, vcM, d3, txC_1, hvi, c3, Int.toNat_natCast, q, hlen, hil])
    (refine W_at c18_ok ?_; refine ⟨_, rfl, ?_⟩; simp (disch := first | omega | assumption | rfl | (simp only [vcS] <;> omega) | fail) only [↓vcA, vcB, ↓reduceIte, Nat.reduceEqDiff])
    (refine W_at c18_ok ?_; refine ⟨_, rfl, ?_⟩; simp (disch := first | omega | assumption | rfl | (simp only [vcS] <;> omega) | fail) only [↓vcA, vcB, ↓reduceIte, Nat.reduceEqDiff, Option.bind_some, vcM, d3, txC_1, hvi, c3, c4, Int.toNat_natCast, Nat.mul_one, q, hcy, hyl])
    by_cases hg4 : (by' : Int) < (b.length : Nat)
    · obtain ⟨qs, cs, rfl, hcs⟩ := hyb.1.is
      have k1 : (0 : Int) ≤ (by' : Nat) ∧ ((by' : Nat) : Int) ≤ (cs : Nat) := by omega
      have hEd : Ext wj wj.drew := (Keep.refl _ wj).drew
      have hPd := hP.keep hEd
      have hcut := (hyb.keepT hEd fun _ h => h.elim).cut (k := by') (by omega)
      have a4d := hEd.at a4 (fun h => h)
      obtain ⟨hw, hP2⟩ := hPd.setR a1 a4d (idx := o1 + j) (by omega) hcut
      have hk : Keep (fun y => y = g1) wj.drew (wj.drew.setCell ⟨g1, o1 + j, none⟩ (.slice qs by' cs)) := (Keep.refl _ _).setCell _ fun _ => rfl
      have hG2 := (hG0.keepT hEd fun _ h => h.elim).set (idx := o1 + j) a4d hcut
      have hrd2 : rdO (wj.drew.setCell ⟨g1, o1 + j, none⟩ (.slice qs by' cs)).heap[g]? (o + i * 36) 36 = some (iC x sv (.slice (some ⟨g1, o1, none⟩) nw cap1)) := by
        obtain ⟨_, cur, hcur⟩ := ListN.blkT hPd.ins (g := g) (by rw [hvi]; rfl)
        have hne : g ≠ g1 := fun e => by subst e; rw [a4d] at hcur; injection hcur with e; injection e with _ e; exact absurd e (by decide)
        have h1 := hEd.block g (by rw [← Nat.not_le]; intro hh; rw [Array.getElem?_eq_none hh] at hrd; cases hrd) (fun h => h)
        rw [hk.block g (lt_of_heap hcur) hne, h1]
        exact hrd
      (refine W_at c18_ok ?_; refine ⟨_, rfl, ?_⟩; simp (disch := first | omega | assumption | rfl | (simp only [vcS] <;> omega) | fail) only [↓vcA, vcB, ↓reduceIte, Nat.reduceEqDiff, hg4])
      (refine W_at c18_ok ?_; refine ⟨_, rfl, ?_⟩; simp (disch := first | omega | assumption | rfl | (simp only [vcS] <;> omega) | fail) only [↓ptV_l, ↓vcA, vcB, ↓reduceIte, Nat.reduceEqDiff, Option.bind_some, Option.map_some, vcM, d3, txC_1, hvi, c3, c4, Int.toNat_natCast, Nat.mul_one, q, hcy, k1, Nat.sub_zero])
      refine ⟨hw, ?_⟩
      (refine W_at c18_ok ?_; refine ⟨_, rfl, ?_⟩; simp (disch := first | omega | assumption | rfl | (simp only [vcS] <;> omega) | fail) only [↓vcA, vcB, ↓reduceIte, Nat.reduceEqDiff, Option.bind_some, wi])
      (refine W_at c18_ok ?_; refine ⟨_, rfl, ?_⟩; simp (disch := first | omega | assumption | rfl | (simp only [vcS] <;> omega) | fail) only [vcB])
      exact ih (j + 1) _ _ (by omega) hP2 hrd2 hG2
    · (refine W_at c18_ok ?_; refine ⟨_, rfl, ?_⟩; simp (disch := first | omega | assumption | rfl | (simp only [vcS] <;> omega) | fail) only [↓vcA, vcB, ↓reduceIte, Nat.reduceEqDiff, hg4])
      (refine W_at c18_ok ?_; refine ⟨_, rfl, ?_⟩; simp (disch := first | omega | assumption | rfl | (simp only [vcS] <;> omega) | fail) only [↓vcA, vcB, ↓reduceIte, Nat.reduceEqDiff, Option.bind_some, wi])
      (refine W_at c18_ok ?_; refine ⟨_, rfl, ?_⟩; simp (disch := first | omega | assumption | rfl | (simp only [vcS] <;> omega) | fail) only [vcB])
      exact ih (j + 1) wj _ (by omega) hP hrd hG0
set_option maxHeartbeats 3200000 in
theorem few_ins (w : World) (p3 p6 : Nat) (t : TxV) (n by' : Nat) (hok : t.Ok) (hn : n ≤ 100) (hb : by' ≤ 100000) (vi vo : Value) (lo : List TxO) (hlo : lo.length ≤ n) :
    ∀ (k i : Nat) (wj : World) (li : List TxI) (tl : Env), k + i = li.length → li.length ≤ n → FwS w wj p3 p6 t vi vo li lo → (∀ j (h : j < li.length), j < i → li[j].script.length ≤ by') →
      W Try.prog (FewQ w n by') 18 28 ((1, .int .i64 (n : Nat)) :: (2, .int .i64 (by' : Nat)) :: (3, .pointer (some ⟨p3, 0, none⟩)) :: (6, .pointer (some ⟨p6, 0, none⟩)) :: (7, .int .i64 (i : Nat)) :: tl) wj := by
  intro k
  induction k with
  | zero =>
    intro i wj li tl hi hli hP hd
    have hil : ¬ ((i : Int) < (li.length : Nat)) := by omega
    have d3 := hP.c3
    have hlen := ListN.len hP.ins
    (refine W_at c18_ok ?_; refine ⟨_, rfl, ?_⟩; simp (disch := first | omega | assumption | rfl | (simp only [vcS] <;> omega) | fail) only [↓vcA, vcB, ↓reduceIte, Nat.reduceEqDiff, Option.bind_some, vcM, d3, txC_1, hlen, hil])
    (refine W_at c18_ok ?_; refine ⟨_, rfl, ?_⟩; simp (disch := first | omega | assumption | rfl | (simp only [vcS] <;> omega) | fail) only [↓vcA, vcB, ↓reduceIte, Nat.reduceEqDiff])
    (refine W_at c18_ok ?_; refine ⟨_, rfl, ?_⟩; simp (disch := first | omega | assumption | rfl | (simp only [vcS] <;> omega) | fail) only [↓vcA, vcB, ↓reduceIte, Nat.reduceEqDiff])
    refine few_outs w p3 p6 t n by' hok hn hb vi li hli (fun x hx => ?_) lo.length 0 wj vo lo _ (by omega) hlo hP fun j _ h => by omega
    obtain ⟨j, hj, rfl⟩ := List.getElem_of_mem hx
    exact hd j hj (by omega)
  | succ k ih =>
    intro i wj0 li0 tl0 hi hli hP hd
    have hi0 : i < li0.length := by omega
    have hil : ((i : Int) < (li0.length : Nat)) := by omega
    have c3 : 0 ≤ (i : Int) ∧ (i : Int) < (li0.length : Nat) := by omega
    have wi : IntKind.i64.wrap ((i : Int) + 1) = ((i + 1 : Nat) : Int) := wrap_i64 (by omega) (by omega)
    have items : ∀ wj li tl, li.length = li0.length → FwS w wj p3 p6 t vi vo li lo → (∀ j (h : j < li.length), j < i + 1 → li[j].script.length ≤ by') →
        W Try.prog (FewQ w n by') 18 20 ((1, .int .i64 (n : Nat)) :: (2, .int .i64 (by' : Nat)) :: (3, .pointer (some ⟨p3, 0, none⟩)) :: (6, .pointer (some ⟨p6, 0, none⟩)) :: (7, .int .i64 (i : Nat)) :: tl) wj := by
      intro wj li tl hl hP hd
      obtain ⟨g, o, cap, c, hvi, hrd, ⟨sv, wv, nw, rfl, hsv, hG, hnw⟩, hm, cur, hg⟩ := ListN.at hP.ins (i := i) (by omega)
      have hoi := hP.okI _ (List.getElem_mem (show i < li.length by omega))
      (refine W_at c18_ok ?_; refine ⟨_, rfl, ?_⟩; simp (disch := first | omega | assumption | rfl | (simp only [vcS] <;> omega) | fail) only [↓vcA, vcB, ↓reduceIte, Nat.reduceEqDiff])
      refine few_wits w p3 p6 t n by' hb vi vo li lo i (by omega) (by omega) g o cap hvi li[i] hoi.len sv wv nw ?_ nw 0 wj _ (by omega) hP hrd hG
      intro w9 tl9 hP9
      (refine W_at c18_ok ?_; refine ⟨_, rfl, ?_⟩; simp (disch := first | omega | assumption | rfl | (simp only [vcS] <;> omega) | fail) only [↓vcA, vcB, ↓reduceIte, Nat.reduceEqDiff, Option.bind_some, wi])
      (refine W_at c18_ok ?_; refine ⟨_, rfl, ?_⟩; simp (disch := first | omega | assumption | rfl | (simp only [vcS] <;> omega) | fail) only [vcB])
      exact ih (i + 1) w9 li _ (by omega) (by omega) hP9 hd
    have wits : ∀ wj li tl, li.length = li0.length → FwS w wj p3 p6 t vi vo li lo → (∀ j (h : j < li.length), j < i + 1 → li[j].script.length ≤ by') →
        W Try.prog (FewQ w n by') 18 23 ((1, .int .i64 (n : Nat)) :: (2, .int .i64 (by' : Nat)) :: (3, .pointer (some ⟨p3, 0, none⟩)) :: (6, .pointer (some ⟨p6, 0, none⟩)) :: (7, .int .i64 (i : Nat)) :: tl) wj := by
      intro wj li tl hl hP hd
      have hil2 : i < li.length := by omega
      obtain ⟨g, o, cap, c, hvi, hrd, ⟨sv, wv, nw, rfl, hsv, hG, hnw⟩, hm, cur, hg⟩ := ListN.at hP.ins hil2
      have hoi := hP.okI _ (List.getElem_mem hil2)
      have d3 := hP.c3
      have q := rdO_cell hrd (j := 35) (by omega)
      rw [iC_35 hoi.len] at q
      have hlen := hG.len
      have c5 : 0 ≤ (i : Int) ∧ (i : Int) < (li.length : Nat) := by omega
      (refine W_at c18_ok ?_; refine ⟨_, rfl, ?_⟩; simp (disch := first | omega | assumption | rfl | (simp only [vcS] <;> omega) | fail) only [↓vcA, vcB, ↓reduceIte, Nat.reduceEqDiff, Option.bind_some, vcM, d3, txC_1, hvi, c5, Int.toNat_natCast, q, hlen])
      by_cases hg4 : (n : Int) < (nw : Nat)
      · have hEd : Ext wj wj.drew := (Keep.refl _ wj).drew
        have hPd := hP.keep hEd
        obtain ⟨qs, cs, rfl, hcs⟩ : ∃ q c, wv = .slice q nw c ∧ nw ≤ c := by
          rcases hG with ⟨rfl, rfl⟩ | ⟨g1, o1, cap1, cs1, rfl, a1, a2, _⟩
          · exact ⟨none, 0, rfl, Nat.le_refl _⟩
          · exact ⟨_, _, rfl, a2⟩
        have k1 : (0 : Int) ≤ (n : Nat) ∧ ((n : Nat) : Int) ≤ (cs : Nat) := by omega
        have hcut := (hG.keepT hEd fun _ h => h.elim).cut (k := n) (by omega)
        obtain ⟨hw, hP2⟩ := hPd.setI (j := 35) hvi hil2 (by decide) (.slice qs n cs) li[i] hoi (fun w' c hk hS hI => by
          obtain ⟨sv', wv', n', rfl, b1, b2, b3⟩ := hI
          refine ⟨sv', .slice qs n cs, n, iC_set35 hoi.len _ _ _, b1.keepT hk fun g' hg' c => by subst hg'; exact (hS c).1, hcut.keepT hk fun g' hg' c => by subst hg'; exact hS c, by omega⟩)
        rw [List.set_getElem_self] at hP2
        (refine W_at c18_ok ?_; refine ⟨_, rfl, ?_⟩; simp (disch := first | omega | assumption | rfl | (simp only [vcS] <;> omega) | fail) only [↓vcA, vcB, ↓reduceIte, Nat.reduceEqDiff, hg4])
        (refine W_at c18_ok ?_; refine ⟨_, rfl, ?_⟩; simp (disch := first | omega | assumption | rfl | (simp only [vcS] <;> omega) | fail) only [↓ptV_l, ↓vcA, vcB, ↓reduceIte, Nat.reduceEqDiff, Option.bind_some, Option.map_some, vcM, d3, txC_1, hvi, c5, Int.toNat_natCast, q, k1, Nat.sub_zero])
        refine ⟨hw, ?_⟩
        exact items _ li _ hl hP2 hd
      · (refine W_at c18_ok ?_; refine ⟨_, rfl, ?_⟩; simp (disch := first | omega | assumption | rfl | (simp only [vcS] <;> omega) | fail) only [↓vcA, vcB, ↓reduceIte, Nat.reduceEqDiff, hg4])
        exact items wj li _ hl hP hd
    obtain ⟨g, o, cap, c, hvi, hrd, ⟨sv, wv, nw, rfl, hsv, hG, hnw⟩, hm, cur, hg⟩ := ListN.at hP.ins hi0
    have hoi := hP.okI _ (List.getElem_mem hi0)
    have d3 := hP.c3
    have q := rdO_cell hrd (j := 33) (by omega)
    rw [iC_33 hoi.len] at q
    have hsl := hsv.1.len
    have hlen := ListN.len hP.ins
    (refine W_at c18_ok ?_; refine ⟨_, rfl, ?_⟩; simp (disch := first | omega | assumption | rfl | (simp only [vcS] <;> omega) | fail) only [↓vcA, vcB, ↓reduceIte, Nat.reduceEqDiff, Option.bind_some, vcM, d3, txC_1, hlen, hil])
    (refine W_at c18_ok ?_; refine ⟨_, rfl, ?_⟩; simp (disch := first | omega | assumption | rfl | (simp only [vcS] <;> omega) | fail) only [↓vcA, vcB, ↓reduceIte, Nat.reduceEqDiff])
    (refine W_at c18_ok ?_; refine ⟨_, rfl, ?_⟩; simp (disch := first | omega | assumption | rfl | (simp only [vcS] <;> omega) | fail) only [↓vcA, vcB, ↓reduceIte, Nat.reduceEqDiff, Option.bind_some, vcM, d3, txC_1, hvi, c3, Int.toNat_natCast, q, hsl])
    by_cases hg4 : (by' : Int) < (li0[i].script.length : Nat)
    · have hEd : Ext wj0 wj0.drew := (Keep.refl _ wj0).drew
      have hPd := hP.keep hEd
      obtain ⟨qs, cs, rfl, hcs⟩ := hsv.1.is
      have k1 : (0 : Int) ≤ (by' : Nat) ∧ ((by' : Nat) : Int) ≤ (cs : Nat) := by omega
      have hcut := (hsv.keepT hEd fun _ h => h.elim).cut (k := by') (by omega)
      obtain ⟨hw, hP2⟩ := hPd.setI (j := 33) hvi hi0 (by decide) (.slice qs by' cs) { li0[i] with script := li0[i].script.take by' } ⟨hoi.len, hoi.prev, hoi.idx, byt_take hoi.script _, hoi.seq, hoi.wit⟩ (fun w' c hk hS hI => by
        obtain ⟨sv', wv', n', rfl, b1, b2, b3⟩ := hI
        refine ⟨.slice qs by' cs, wv', n', ?_, hcut.keepT hk fun g' hg' c => by subst hg'; exact (hS c).1, b2.keepT hk fun g' hg' c => by subst hg'; exact hS c, b3⟩
        rw [iC_set33 hoi.len]; rfl)
      (refine W_at c18_ok ?_; refine ⟨_, rfl, ?_⟩; simp (disch := first | omega | assumption | rfl | (simp only [vcS] <;> omega) | fail) only [↓vcA, vcB, ↓reduceIte, Nat.reduceEqDiff, hg4])
      (refine W_at c18_ok ?_; refine ⟨_, rfl, ?_⟩; simp (disch := first | omega | assumption | rfl | (simp only [vcS] <;> omega) | fail) only [↓ptV_l, ↓vcA, vcB, ↓reduceIte, Nat.reduceEqDiff, Option.bind_some, Option.map_some, vcM, d3, txC_1, hvi, c3, Int.toNat_natCast, q, k1, Nat.sub_zero])
      refine ⟨hw, ?_⟩
      refine wits _ _ _ (by rw [List.length_set]) hP2 fun j hj hji => ?_
      rw [List.length_set] at hj
      by_cases hjj : i = j
      · subst hjj
        rw [List.getElem_set_self]
        show (li0[i].script.take by').length ≤ by'
        rw [List.length_take]; omega
      · rw [List.getElem_set_ne hjj]
        exact hd j hj (by omega)
    · (refine W_at c18_ok ?_; refine ⟨_, rfl, ?_⟩; simp (disch := first | omega | assumption | rfl | (simp only [vcS] <;> omega) | fail) only [↓vcA, vcB, ↓reduceIte, Nat.reduceEqDiff, hg4])
      refine wits wj0 li0 _ rfl hP fun j hj hji => ?_
      by_cases hjj : j = i
      · subst hjj; omega
      · exact hd j hj (by omega)
set_option maxHeartbeats 3200000 in
theorem few_ok (w : World) (iv ov : Value) (t : TxV) (n by' : Nat) (hT : TxR w iv ov t) (hok : t.Ok) (hsz : t.Sz) (hn : n ≤ 100) (hb : by' ≤ 100000) :
    Calls Try.prog 18 #[.agg (txC t iv ov), .int .i64 (n : Nat), .int .i64 (by' : Nat)] w (Ret fun u w' => ∃ t' iv' ov', u = .agg (txC t' iv' ov') ∧ TxT w.heap.size w' iv' ov' t' ∧ t'.Ok ∧ t'.Sz ∧ t'.Lim n by' ∧ Ext w w') := by
  refine calls_of_cfg c18_ok (Nat.le_of_ble_eq_true rfl) ?_
  simp only [argE_nil, argE_cons, Nat.reduceAdd, Nat.zero_add]
  show W Try.prog (FewQ w n by') _ _ _ _
  have hi1 := ListR.one hT.ins
  have ho1 := ListR.one hT.outs
  have hfx : flat (txC t iv ov) := by intro y hy; simp only [txC, List.mem_cons, List.not_mem_nil, or_false] at hy; rcases hy with rfl | rfl | rfl | rfl <;> first | rfl | assumption
  have hcx : (Value.agg (txC t iv ov)).cells = txC t iv ov := rfl
  have hzx := txC_sz t iv ov
  (refine W_at c18_ok ?_; refine ⟨_, rfl, ?_⟩; simp (disch := first | omega | assumption | rfl | (simp only [vcS] <;> omega) | fail) only [↓ptV_l, ↓vcA, vcB, ↓reduceIte, Nat.reduceEqDiff, reduceCtorEq, vcM, hcx])
  have hE1 : Ext w (w.alloc (.cells (txC t iv ov) 26)) := (Keep.refl _ w).alloc _
  have c1 : (w.alloc (.cells (txC t iv ov) 26)).heap[w.heap.size]? = some (.cells (txC t iv ov) 26 (0, 0)) := heap_new _ _ _ rfl
  have s1 : (w.alloc (.cells (txC t iv ov) 26)).heap.size = w.heap.size + 1 := size_alloc _ _
  generalize World.alloc w _ = w1 at hE1 c1 s1 ⊢
  have hE2 : Ext w1 (w1.alloc (.cells (zc [(1, .int .i32 0), (2, .slice none 0 0), (1, .int .u32 0)]) 26)) := (Keep.refl _ w1).alloc _
  have c2 : (w1.alloc (.cells (zc [(1, .int .i32 0), (2, .slice none 0 0), (1, .int .u32 0)]) 26)).heap[w1.heap.size]? = some (.cells (zc [(1, .int .i32 0), (2, .slice none 0 0), (1, .int .u32 0)]) 26 (0, 0)) := heap_new _ _ _ rfl
  generalize World.alloc w1 _ = w2 at hE2 c2 ⊢
  rw [s1] at c2
  generalize hp1 : w.heap.size = p3 at c1 c2 s1 ⊢
  generalize hp2 : p3 + 1 = p6 at c2 s1 ⊢
  have c12 := hE2.at c1 (fun h => h)
  have hE02 := hE1.ext hE2
  have hr4 : rdO (some (.cells (txC t iv ov) 26 (0, 0))) 0 4 = some (txC t iv ov) := rdO_all _ _ _ _ rfl
  (refine W_at c18_ok ?_; refine ⟨_, rfl, ?_⟩; simp (disch := first | omega | assumption | rfl | (simp only [vcS] <;> omega) | fail) only [↓ptV_l, ↓vcA, vcB, ↓reduceIte, Nat.reduceEqDiff, Option.bind_some, Option.map_some, vcM, c12, hr4])
  refine callV_ret (rcopy_ok w2 iv ov t (hT.ext hE02) hok hsz) ?_
  rintro _ w3 ⟨vi, vo, rfl, hI, hO, hE3⟩
  have c13 := hE3.at c12 (fun h => h)
  have c23 := hE3.at c2 (fun h => h)
  have hz2 := txC_sz t vi vo
  have ho4 : okO (some (.cells (txC t iv ov) 26 (0, 0))) 0 4 = True := by simp only [okO, hzx]; simp
  first | (simp (disch := first | omega | assumption | rfl | (simp only [vcS] <;> omega) | fail) only [↓vcA, vcB, vcM, c13, hz2, ho4]) | skip
  have hw2 : w.heap.size ≤ w2.heap.size := hE02.size
  have hfv : flat (txC t vi vo) := by
    have a1 := ListN.one hI
    have a2 := ListN.one hO
    intro y hy; simp only [txC, List.mem_cons, List.not_mem_nil, or_false] at hy; rcases hy with rfl | rfl | rfl | rfl <;> first | rfl | assumption
  refine ⟨hfv, ?_⟩
  have hk4 : Keep (fun g => g = p3) w3 (w3.putN p3 0 (txC t vi vo)) := (Keep.refl _ w3).putN _ fun _ => rfl
  have hP : FwS w (w3.putN p3 0 (txC t vi vo)) p3 p6 t vi vo t.ins t.outs := by
    refine ⟨(hE02.ext hE3).trans hk4 fun g hg e => by omega, by rw [heap_putN_eq c13, splice_all (by rw [hzx, hz2])], ⟨_, hk4.at c23 (by omega), by decide⟩, ?_, ?_, by omega, by omega, by omega, hok.ins, hok.outs⟩
    · exact ListN.imp (InsN.setT hI hk4 c13 (by decide) (by decide) (by decide)) hw2 fun c x hx hR => (hR.base hw2).ig (hok.ins x hx) (hsz.inp x hx)
    · exact ListN.imp (OusN.setT hO hk4 c13 (by decide) (by decide)) hw2 fun c y hy hR => (hR.base hw2).og (hok.outs y hy) (hsz.out y hy)
  generalize World.putN _ _ _ _ = w4 at hP ⊢
  clear hk4 hfv c13 c23 hI hO hE3 c12 hr4 hE02 hE1 hE2 c1 c2
  have after : ∀ wj vi li tl, FwS w wj p3 p6 t vi vo li t.outs → li.length ≤ n → W Try.prog (FewQ w n by') 18 32 ((1, .int .i64 (n : Nat)) :: (2, .int .i64 (by' : Nat)) :: (3, .pointer (some ⟨p3, 0, none⟩)) :: (6, .pointer (some ⟨p6, 0, none⟩)) :: tl) wj := by
    intro wj vi li tl hP hli
    have go : ∀ wj vo lo tl, FwS w wj p3 p6 t vi vo li lo → lo.length ≤ n → W Try.prog (FewQ w n by') 18 29 ((1, .int .i64 (n : Nat)) :: (2, .int .i64 (by' : Nat)) :: (3, .pointer (some ⟨p3, 0, none⟩)) :: (6, .pointer (some ⟨p6, 0, none⟩)) :: tl) wj := by
      intro wj vo lo tl hP hlo
      (refine W_at c18_ok ?_; refine ⟨_, rfl, ?_⟩; simp (disch := first | omega | assumption | rfl | (simp only [vcS] <;> omega) | fail) only [↓vcA, vcB, ↓reduceIte, Nat.reduceEqDiff])
      exact few_ins w p3 p6 t n by' hok hn hb vi vo lo hlo li.length 0 wj li _ (by omega) hli hP fun j _ h => by omega
    have d3 := hP.c3
    have hlen := ListN.len hP.outs
    (refine W_at c18_ok ?_; refine ⟨_, rfl, ?_⟩; simp (disch := first | omega | assumption | rfl | (simp only [vcS] <;> omega) | fail) only [↓vcA, vcB, ↓reduceIte, Nat.reduceEqDiff, Option.bind_some, vcM, d3, txC_2, hlen])
    by_cases hg : (n : Int) < (t.outs.length : Nat)
    · obtain ⟨q, c, rfl, hc⟩ := ListN.is hP.outs
      have k1 : (0 : Int) ≤ (n : Nat) ∧ ((n : Nat) : Int) ≤ (c : Nat) := by omega
      obtain ⟨hw, hP2⟩ := hP.put2 (ListN.take hP.outs (k := n) (by omega)) fun x hx => List.mem_of_mem_take hx
      have h1 : (Value.slice q n c).oneCell' = true := rfl
      (refine W_at c18_ok ?_; refine ⟨_, rfl, ?_⟩; simp (disch := first | omega | assumption | rfl | (simp only [vcS] <;> omega) | fail) only [↓vcA, vcB, ↓reduceIte, Nat.reduceEqDiff, hg])
      (refine W_at c18_ok ?_; refine ⟨_, rfl, ?_⟩; simp (disch := first | omega | assumption | rfl | (simp only [vcS] <;> omega) | fail) only [↓ptV_l, ↓vcA, vcB, ↓reduceIte, Nat.reduceEqDiff, Option.bind_some, Option.map_some, vcM, d3, txC_2, k1, Int.toNat_natCast, Nat.sub_zero])
      refine ⟨hw, ?_⟩
      exact go _ _ _ _ hP2 (by rw [List.length_take]; omega)
    · (refine W_at c18_ok ?_; refine ⟨_, rfl, ?_⟩; simp (disch := first | omega | assumption | rfl | (simp only [vcS] <;> omega) | fail) only [↓vcA, vcB, ↓reduceIte, Nat.reduceEqDiff, hg])
      exact go _ _ _ _ hP (by omega)
  have d3 := hP.c3
  have hlen := ListN.len hP.ins
  (refine W_at c18_ok ?_; refine ⟨_, rfl, ?_⟩; simp (disch := first | omega | assumption | rfl | (simp only [vcS] <;> omega) | fail) only [↓vcA, vcB, ↓reduceIte, Nat.reduceEqDiff, Option.bind_some, vcM, d3, txC_1, hlen])
  by_cases hg : (n : Int) < (t.ins.length : Nat)
  · obtain ⟨q, c, rfl, hc⟩ := ListN.is hP.ins
    have k1 : (0 : Int) ≤ (n : Nat) ∧ ((n : Nat) : Int) ≤ (c : Nat) := by omega
    obtain ⟨hw, hP2⟩ := hP.put1 (ListN.take hP.ins (k := n) (by omega)) fun x hx => List.mem_of_mem_take hx
    (refine W_at c18_ok ?_; refine ⟨_, rfl, ?_⟩; simp (disch := first | omega | assumption | rfl | (simp only [vcS] <;> omega) | fail) only [↓vcA, vcB, ↓reduceIte, Nat.reduceEqDiff, hg])
    (refine W_at c18_ok ?_; refine ⟨_, rfl, ?_⟩; simp (disch := first | omega | assumption | rfl | (simp only [vcS] <;> omega) | fail) only [↓ptV_l, ↓vcA, vcB, ↓reduceIte, Nat.reduceEqDiff, Option.bind_some, Option.map_some, vcM, d3, txC_1, k1, Int.toNat_natCast, Nat.sub_zero])
    refine ⟨hw, ?_⟩
    exact after _ _ _ _ hP2 (by rw [List.length_take]; omega)
  · (refine W_at c18_ok ?_; refine ⟨_, rfl, ?_⟩; simp (disch := first | omega | assumption | rfl | (simp only [vcS] <;> omega) | fail) only [↓vcA, vcB, ↓reduceIte, Nat.reduceEqDiff, hg])
    exact after _ _ _ _ hP (by omega)
end Go.Proofs
namespace Go.Proofs
open Go.Vc
set_option maxRecDepth 10000

theorem appB4 {w : World} {v x : Value} {bs news : List Int} {K : Value → World → Prop} (h : Own1 w v bs) (hx : Rd w x news) (hlen : bs.length + news.length ≤ 140737488355328)
    (hk : ∀ v' w', Own1 w' v' (bs ++ news) → Keep (blk v) w w' → (∀ g, blk v' g → blk v g ∨ w.heap.size ≤ g) → K v' w') : appV 5 1 1 [.int .u8 0] v x w K := by
  obtain ⟨⟨q, c, rfl, hc⟩, hm, hr⟩ := hx
  have hml : maxLen = 9223372036854775807 := rfl
  refine appV_own3 h rfl hr (bv_flat news) (by omega) (by omega) rfl (Nat.zero_le _) (by omega) fun v' w' ho hg hb => hk v' w' ?_ ?_ hb
  · have e : bv (bs ++ news) = bv bs ++ (bv news).toArray.toList := by rw [bv_app]
    show w'.ownsRow 0 5 1 v' (bs ++ news).length (bv (bs ++ news))
    rw [e, List.length_append]; exact ho
  · exact (Keep.refl _ w).grown hg fun k _ h => h
/-- A copy of one's own, however long. -/
theorem clone4_ok (w : World) (v : Value) (bs : List Int) (h : Rd w v bs) (hn : bs.length ≤ 140737488355328) :
    Calls Try.prog 50 #[v] w (Ret fun u w' => Own1 w' u bs ∧ Ext w w' ∧ ∀ g, blk u g → w.heap.size ≤ g) := by
  refine calls_of_cfg c50_ok (Nat.le_of_ble_eq_true rfl) ?_
  simp only [argE_nil, argE_cons, Nat.zero_add]
  have h0 := h
  obtain ⟨⟨q, c, rfl, hc⟩, hm, hr⟩ := h
  (refine W_at c50_ok ?_; refine ⟨_, rfl, ?_⟩; simp (disch := first | omega | assumption | rfl | (simp only [vcS] <;> omega) | fail) only [↓vcA, vcB, ↓reduceIte, reduceCtorEq])
  cases q with
  | none =>
    have hb0 : bs = [] := by
      cases bs with
      | nil => rfl
      | cons b bs =>
        simp only [rdS, List.length_cons] at hr
        rw [if_neg (by omega)] at hr; cases hr
    subst hb0
    (refine W_at c50_ok ?_; refine ⟨_, rfl, ?_⟩; simp (disch := first | omega | assumption | rfl | (simp only [vcS] <;> omega) | fail) only [↓vcA, vcB, ↓reduceIte, reduceCtorEq, Option.bind_some, List.length_nil])
    (refine W_at c50_ok ?_; refine ⟨_, rfl, ?_⟩; simp (disch := first | omega | assumption | rfl | (simp only [vcS] <;> omega) | fail) only [↓vcA, vcB, ↓reduceIte, reduceCtorEq])
    (refine W_at c50_ok ?_; refine ⟨_, rfl, ?_⟩; simp (disch := first | omega | assumption | rfl | (simp only [vcS] <;> omega) | fail) only [↓vcA, vcB, ↓reduceIte])
    (refine W_at c50_ok ?_; refine ⟨_, rfl, ?_⟩; simp (disch := first | omega | assumption | rfl | (simp only [vcS] <;> omega) | fail) only [↓vcA, vcB, ↓reduceIte, Option.bind_some, Option.map_some, Ret_returned])
    exact ⟨Own1.nil w, Keep.refl _ w, fun g hg => by cases hg⟩
  | some a =>
    (refine W_at c50_ok ?_; refine ⟨_, rfl, ?_⟩; simp (disch := first | omega | assumption | rfl | (simp only [vcS] <;> omega) | fail) only [↓vcA, vcB, ↓reduceIte, reduceCtorEq, Option.bind_some])
    (refine W_at c50_ok ?_; refine ⟨_, rfl, ?_⟩; simp (disch := first | omega | assumption | rfl | (simp only [vcS] <;> omega) | fail) only [↓vcA, vcB, ↓reduceIte, reduceCtorEq])
    (refine W_at c50_ok ?_; refine ⟨_, rfl, ?_⟩; simp (disch := first | omega | assumption | rfl | (simp only [vcS] <;> omega) | fail) only [↓ptV_l, ↓vcA, vcB, ↓reduceIte, Nat.reduceEqDiff, reduceCtorEq, Option.bind_some, List.length_nil, vcM])
    have hE : Ext w (w.alloc (.cells #[] 5)) := by (repeat' first | exact Keep.refl _ _ | assumption | refine Keep.drew ?_ | refine Keep.alloc ?_ _ | refine Keep.putN ?_ _ ?_ | refine Keep.setCell ?_ _ ?_ | refine Keep.setO ?_ _ ?_ | exact fun _ => Or.inl rfl | exact fun _ => Or.inr rfl | exact fun _ => rfl | (intro hh; exfalso; ((try simp only [vcS] at hh) <;> omega)))
    have ho : Own1 (w.alloc (.cells #[] 5)) (.slice (some ⟨w.heap.size, 0, none⟩) 0 0) [] := own_lit1 (bs := []) (Nat.zero_le _)
    refine appB4 ho (h0.ext hE) (by simp; omega) fun v' w' h1 h2 h3 => ?_
    (refine W_at c50_ok ?_; refine ⟨_, rfl, ?_⟩; simp (disch := first | omega | assumption | rfl | (simp only [vcS] <;> omega) | fail) only [↓vcA, vcB, ↓reduceIte, Option.bind_some, Option.map_some, Ret_returned])
    refine ⟨h1, hE.trans h2 fun i hi hb => ?_, fun g hg => ?_⟩
    · cases hb; exact absurd hi (Nat.lt_irrefl _)
    · rcases h3 g hg with hb | hb
      · cases hb; exact Nat.le_refl _
      · rw [size_alloc] at hb; omega
theorem cloneI_ok (w : World) (v : Value) (cs : List (Array Value)) (hr : rdS w 36 v = some (cs.flatMap Array.toList).toArray) (hsz : ∀ c ∈ cs, c.size = 36) (hfl : ∀ c ∈ cs, flat c) (hv : ∃ q c, v = .slice q cs.length c ∧ cs.length ≤ c) (hl : cs.length ≤ 100000) :
    Calls Try.prog 48 #[v] w (Ret fun u w' => OwnO w' w.heap.size 50 36 u cs ∧ Ext w w') := by
  refine calls_of_cfg c48_ok (Nat.le_of_ble_eq_true rfl) ?_
  simp only [argE_nil, argE_cons, Nat.zero_add]
  obtain ⟨q, c, rfl, hc⟩ := hv
  (refine W_at c48_ok ?_; refine ⟨_, rfl, ?_⟩; simp (disch := first | omega | assumption | rfl | (simp only [vcS] <;> omega) | fail) only [↓vcA, vcB, ↓reduceIte, reduceCtorEq])
  cases q with
  | none =>
    have h0 : cs = [] := by
      by_cases h0 : cs.length = 0
      · exact List.eq_nil_of_length_eq_zero h0
      · simp only [rdS] at hr
        rw [if_neg (by omega)] at hr
        cases hr
    subst h0
    (refine W_at c48_ok ?_; refine ⟨_, rfl, ?_⟩; simp (disch := first | omega | assumption | rfl | (simp only [vcS] <;> omega) | fail) only [↓vcA, vcB, ↓reduceIte, reduceCtorEq, Option.bind_some, List.length_nil])
    (refine W_at c48_ok ?_; refine ⟨_, rfl, ?_⟩; simp (disch := first | omega | assumption | rfl | (simp only [vcS] <;> omega) | fail) only [↓vcA, vcB, ↓reduceIte, reduceCtorEq])
    (refine W_at c48_ok ?_; refine ⟨_, rfl, ?_⟩; simp (disch := first | omega | assumption | rfl | (simp only [vcS] <;> omega) | fail) only [↓vcA, vcB, ↓reduceIte])
    (refine W_at c48_ok ?_; refine ⟨_, rfl, ?_⟩; simp (disch := first | omega | assumption | rfl | (simp only [vcS] <;> omega) | fail) only [↓vcA, vcB, ↓reduceIte, Option.bind_some, Option.map_some, Ret_returned])
    exact ⟨OwnO.nil _ _ _ _, Keep.refl _ w⟩
  | some a =>
    (refine W_at c48_ok ?_; refine ⟨_, rfl, ?_⟩; simp (disch := first | omega | assumption | rfl | (simp only [vcS] <;> omega) | fail) only [↓vcA, vcB, ↓reduceIte, reduceCtorEq, Option.bind_some])
    (refine W_at c48_ok ?_; refine ⟨_, rfl, ?_⟩; simp (disch := first | omega | assumption | rfl | (simp only [vcS] <;> omega) | fail) only [↓vcA, vcB, ↓reduceIte, reduceCtorEq])
    (refine W_at c48_ok ?_; refine ⟨_, rfl, ?_⟩; simp (disch := first | omega | assumption | rfl | (simp only [vcS] <;> omega) | fail) only [↓ptV_l, ↓vcA, vcB, ↓reduceIte, Nat.reduceEqDiff, reduceCtorEq, Option.bind_some, List.length_nil, vcM])
    have hE : Ext w (w.alloc (.cells [].toArray 50)) := (Keep.refl _ w).alloc _
    have hO : OwnO (w.alloc (.cells [].toArray 50)) w.heap.size 50 36 (.slice (some ⟨w.heap.size, 0, none⟩) 0 0) [] :=
      ⟨fun _ h => (by cases h), .inr ⟨_, 0, 0, _, rfl, Nat.le_refl _, heap_new _ _ _ rfl, Nat.le_refl _, Nat.zero_le _, by simp, by simp⟩⟩
    refine appO4 (ids2 := cs) hO (rdS_keep hr hE fun _ _ h => h) rfl hsz hfl (by simp; omega) (by simp; omega) rfl hE.size (by decide) fun v' w' k1 k2 k3 => ?_
    rw [List.nil_append] at k1
    first | (simp (disch := first | omega | assumption | rfl | (simp only [vcS] <;> omega) | fail) only [↓ptV_l, ↓vcA, vcB, ↓vcD, vcE, ↓reduceIte, Nat.reduceEqDiff, Nat.reduceAdd, Nat.reduceMul, Nat.reduceLeDiff, Int.reduceLE, Int.reduceLT, Int.reduceEq, Int.reduceToNat, Int.reduceAdd, Int.reduceSub, Int.reduceMul, Int.reduceNeg, reduceCtorEq, Option.bind_some, Option.map_some, List.length_cons, List.length_nil, vcM, List.getElem?_toArray, List.getElem?_cons_zero, List.getElem?_cons_succ]) | skip
    (refine W_at c48_ok ?_; refine ⟨_, rfl, ?_⟩; simp (disch := first | omega | assumption | rfl | (simp only [vcS] <;> omega) | fail) only [↓vcA, vcB, ↓reduceIte, Option.bind_some, Option.map_some, Ret_returned])
    exact ⟨k1, hE.trans k2 fun i hi e => by have e' : w.heap.size = i := Option.some.inj e; omega⟩
theorem cloneO_ok (w : World) (v : Value) (cs : List (Array Value)) (hr : rdS w 2 v = some (cs.flatMap Array.toList).toArray) (hsz : ∀ c ∈ cs, c.size = 2) (hfl : ∀ c ∈ cs, flat c) (hv : ∃ q c, v = .slice q cs.length c ∧ cs.length ≤ c) (hl : cs.length ≤ 100000) :
    Calls Try.prog 49 #[v] w (Ret fun u w' => OwnO w' w.heap.size 54 2 u cs ∧ Ext w w') := by
  refine calls_of_cfg c49_ok (Nat.le_of_ble_eq_true rfl) ?_
  simp only [argE_nil, argE_cons, Nat.zero_add]
  obtain ⟨q, c, rfl, hc⟩ := hv
  (refine W_at c49_ok ?_; refine ⟨_, rfl, ?_⟩; simp (disch := first | omega | assumption | rfl | (simp only [vcS] <;> omega) | fail) only [↓vcA, vcB, ↓reduceIte, reduceCtorEq])
  cases q with
  | none =>
    have h0 : cs = [] := by
      by_cases h0 : cs.length = 0
      · exact List.eq_nil_of_length_eq_zero h0
      · simp only [rdS] at hr
        rw [if_neg (by omega)] at hr
        cases hr
    subst h0
    (refine W_at c49_ok ?_; refine ⟨_, rfl, ?_⟩; simp (disch := first | omega | assumption | rfl | (simp only [vcS] <;> omega) | fail) only [↓vcA, vcB, ↓reduceIte, reduceCtorEq, Option.bind_some, List.length_nil])
    (refine W_at c49_ok ?_; refine ⟨_, rfl, ?_⟩; simp (disch := first | omega | assumption | rfl | (simp only [vcS] <;> omega) | fail) only [↓vcA, vcB, ↓reduceIte, reduceCtorEq])
    (refine W_at c49_ok ?_; refine ⟨_, rfl, ?_⟩; simp (disch := first | omega | assumption | rfl | (simp only [vcS] <;> omega) | fail) only [↓vcA, vcB, ↓reduceIte])
    (refine W_at c49_ok ?_; refine ⟨_, rfl, ?_⟩; simp (disch := first | omega | assumption | rfl | (simp only [vcS] <;> omega) | fail) only [↓vcA, vcB, ↓reduceIte, Option.bind_some, Option.map_some, Ret_returned])
    exact ⟨OwnO.nil _ _ _ _, Keep.refl _ w⟩
  | some a =>
    (refine W_at c49_ok ?_; refine ⟨_, rfl, ?_⟩; simp (disch := first | omega | assumption | rfl | (simp only [vcS] <;> omega) | fail) only [↓vcA, vcB, ↓reduceIte, reduceCtorEq, Option.bind_some])
    (refine W_at c49_ok ?_; refine ⟨_, rfl, ?_⟩; simp (disch := first | omega | assumption | rfl | (simp only [vcS] <;> omega) | fail) only [↓vcA, vcB, ↓reduceIte, reduceCtorEq])
    (refine W_at c49_ok ?_; refine ⟨_, rfl, ?_⟩; simp (disch := first | omega | assumption | rfl | (simp only [vcS] <;> omega) | fail) only [↓ptV_l, ↓vcA, vcB, ↓reduceIte, Nat.reduceEqDiff, reduceCtorEq, Option.bind_some, List.length_nil, vcM])
    have hE : Ext w (w.alloc (.cells [].toArray 54)) := (Keep.refl _ w).alloc _
    have hO : OwnO (w.alloc (.cells [].toArray 54)) w.heap.size 54 2 (.slice (some ⟨w.heap.size, 0, none⟩) 0 0) [] :=
      ⟨fun _ h => (by cases h), .inr ⟨_, 0, 0, _, rfl, Nat.le_refl _, heap_new _ _ _ rfl, Nat.le_refl _, Nat.zero_le _, by simp, by simp⟩⟩
    refine appO4 (ids2 := cs) hO (rdS_keep hr hE fun _ _ h => h) rfl hsz hfl (by simp; omega) (by simp; omega) rfl hE.size (by decide) fun v' w' k1 k2 k3 => ?_
    rw [List.nil_append] at k1
    first | (simp (disch := first | omega | assumption | rfl | (simp only [vcS] <;> omega) | fail) only [↓ptV_l, ↓vcA, vcB, ↓vcD, vcE, ↓reduceIte, Nat.reduceEqDiff, Nat.reduceAdd, Nat.reduceMul, Nat.reduceLeDiff, Int.reduceLE, Int.reduceLT, Int.reduceEq, Int.reduceToNat, Int.reduceAdd, Int.reduceSub, Int.reduceMul, Int.reduceNeg, reduceCtorEq, Option.bind_some, Option.map_some, List.length_cons, List.length_nil, vcM, List.getElem?_toArray, List.getElem?_cons_zero, List.getElem?_cons_succ]) | skip
    (refine W_at c49_ok ?_; refine ⟨_, rfl, ?_⟩; simp (disch := first | omega | assumption | rfl | (simp only [vcS] <;> omega) | fail) only [↓vcA, vcB, ↓reduceIte, Option.bind_some, Option.map_some, Ret_returned])
    exact ⟨k1, hE.trans k2 fun i hi e => by have e' : w.heap.size = i := Option.some.inj e; omega⟩
theorem cloneR_ok (w : World) (v : Value) (cs : List (Array Value)) (hr : rdS w 1 v = some (cs.flatMap Array.toList).toArray) (hsz : ∀ c ∈ cs, c.size = 1) (hfl : ∀ c ∈ cs, flat c) (hv : ∃ q c, v = .slice q cs.length c ∧ cs.length ≤ c) (hl : cs.length * 24 ≤ 140737488355328) :
    Calls Try.prog 51 #[v] w (Ret fun u w' => OwnO w' w.heap.size 27 1 u cs ∧ Ext w w') := by
  refine calls_of_cfg c51_ok (Nat.le_of_ble_eq_true rfl) ?_
  simp only [argE_nil, argE_cons, Nat.zero_add]
  obtain ⟨q, c, rfl, hc⟩ := hv
  (refine W_at c51_ok ?_; refine ⟨_, rfl, ?_⟩; simp (disch := first | omega | assumption | rfl | (simp only [vcS] <;> omega) | fail) only [↓vcA, vcB, ↓reduceIte, reduceCtorEq])
  cases q with
  | none =>
    have h0 : cs = [] := by
      by_cases h0 : cs.length = 0
      · exact List.eq_nil_of_length_eq_zero h0
      · simp only [rdS] at hr
        rw [if_neg (by omega)] at hr
        cases hr
    subst h0
    (refine W_at c51_ok ?_; refine ⟨_, rfl, ?_⟩; simp (disch := first | omega | assumption | rfl | (simp only [vcS] <;> omega) | fail) only [↓vcA, vcB, ↓reduceIte, reduceCtorEq, Option.bind_some, List.length_nil])
    (refine W_at c51_ok ?_; refine ⟨_, rfl, ?_⟩; simp (disch := first | omega | assumption | rfl | (simp only [vcS] <;> omega) | fail) only [↓vcA, vcB, ↓reduceIte, reduceCtorEq])
    (refine W_at c51_ok ?_; refine ⟨_, rfl, ?_⟩; simp (disch := first | omega | assumption | rfl | (simp only [vcS] <;> omega) | fail) only [↓vcA, vcB, ↓reduceIte])
    (refine W_at c51_ok ?_; refine ⟨_, rfl, ?_⟩; simp (disch := first | omega | assumption | rfl | (simp only [vcS] <;> omega) | fail) only [↓vcA, vcB, ↓reduceIte, Option.bind_some, Option.map_some, Ret_returned])
    exact ⟨OwnO.nil _ _ _ _, Keep.refl _ w⟩
  | some a =>
    (refine W_at c51_ok ?_; refine ⟨_, rfl, ?_⟩; simp (disch := first | omega | assumption | rfl | (simp only [vcS] <;> omega) | fail) only [↓vcA, vcB, ↓reduceIte, reduceCtorEq, Option.bind_some])
    (refine W_at c51_ok ?_; refine ⟨_, rfl, ?_⟩; simp (disch := first | omega | assumption | rfl | (simp only [vcS] <;> omega) | fail) only [↓vcA, vcB, ↓reduceIte, reduceCtorEq])
    (refine W_at c51_ok ?_; refine ⟨_, rfl, ?_⟩; simp (disch := first | omega | assumption | rfl | (simp only [vcS] <;> omega) | fail) only [↓ptV_l, ↓vcA, vcB, ↓reduceIte, Nat.reduceEqDiff, reduceCtorEq, Option.bind_some, List.length_nil, vcM])
    have hE : Ext w (w.alloc (.cells [].toArray 27)) := (Keep.refl _ w).alloc _
    have hO : OwnO (w.alloc (.cells [].toArray 27)) w.heap.size 27 1 (.slice (some ⟨w.heap.size, 0, none⟩) 0 0) [] :=
      ⟨fun _ h => (by cases h), .inr ⟨_, 0, 0, _, rfl, Nat.le_refl _, heap_new _ _ _ rfl, Nat.le_refl _, Nat.zero_le _, by simp, by simp⟩⟩
    refine appO4 (ids2 := cs) hO (rdS_keep hr hE fun _ _ h => h) rfl hsz hfl (by simp; omega) (by simp; omega) rfl hE.size (by decide) fun v' w' k1 k2 k3 => ?_
    rw [List.nil_append] at k1
    first | (simp (disch := first | omega | assumption | rfl | (simp only [vcS] <;> omega) | fail) only [↓ptV_l, ↓vcA, vcB, ↓vcD, vcE, ↓reduceIte, Nat.reduceEqDiff, Nat.reduceAdd, Nat.reduceMul, Nat.reduceLeDiff, Int.reduceLE, Int.reduceLT, Int.reduceEq, Int.reduceToNat, Int.reduceAdd, Int.reduceSub, Int.reduceMul, Int.reduceNeg, reduceCtorEq, Option.bind_some, Option.map_some, List.length_cons, List.length_nil, vcM, List.getElem?_toArray, List.getElem?_cons_zero, List.getElem?_cons_succ]) | skip
    (refine W_at c51_ok ?_; refine ⟨_, rfl, ?_⟩; simp (disch := first | omega | assumption | rfl | (simp only [vcS] <;> omega) | fail) only [↓vcA, vcB, ↓reduceIte, Option.bind_some, Option.map_some, Ret_returned])
    exact ⟨k1, hE.trans k2 fun i hi e => by have e' : w.heap.size = i := Option.some.inj e; omega⟩
end Go.Proofs
namespace Go.Proofs
open Go.Vc
set_option maxRecDepth 10000

/-- A slice whose first elements are one's own, the rest as they were. -/
def CL {α : Type} (R : World → Array Value → α → Prop) (RN : Nat → World → Array Value → α → Prop) (T size : Nat) (w wj : World) (i : Nat) (v : Value) (l : List α) : Prop :=
  ∃ cs : List (Array Value), cs.length = l.length ∧ OwnO wj w.heap.size T size v cs ∧ ∀ j (h : j < cs.length) (h' : j < l.length), (j < i → RN w.heap.size wj cs[j] l[j]) ∧ (i ≤ j → R w cs[j] l[j])
section
variable {α : Type} {R : World → Array Value → α → Prop} {RN : Nat → World → Array Value → α → Prop} {T size : Nat} {w wj w' : World} {i : Nat} {v : Value} {l : List α}
theorem CL.keepT {S : Nat → Prop} (h : CL R RN T size w wj i v l) (k : Keep S wj w') (hS : ∀ g, S g → ∀ c, wj.heap[g]? ≠ some (.cells c T (0, 0))) (hR : ∀ c x, RN w.heap.size wj c x → RN w.heap.size w' c x) : CL R RN T size w w' i v l := by
  obtain ⟨cs, h1, h2, h3⟩ := h
  exact ⟨cs, h1, h2.keep k fun g hg hs => by obtain ⟨_, c, hc⟩ := h2.blk hg; exact hS g hs c hc, fun j a b => ⟨fun hj => hR _ _ ((h3 j a b).1 hj), (h3 j a b).2⟩⟩
theorem CL.len (h : CL R RN T size w wj i v l) : lenR v = some (.int .i64 (l.length : Nat)) := by
  obtain ⟨cs, h1, h2, _⟩ := h
  rw [h2.len, h1]
theorem CL.one (h : CL R RN T size w wj i v l) : v.oneCell' = true := by
  obtain ⟨cs, h1, h2, _⟩ := h
  exact h2.one
theorem CL.done (h : CL R RN T size w wj i v l) (hi : l.length ≤ i) : ListN RN T size w.heap.size wj v l := by
  obtain ⟨cs, h1, h2, h3⟩ := h
  exact ⟨cs, h1, h2, fun j a b => (h3 j a b).1 (by omega)⟩
theorem CL.start {cs : List (Array Value)} (h1 : cs.length = l.length) (h2 : OwnO wj w.heap.size T size v cs) (h3 : ∀ j (h : j < cs.length) (h' : j < l.length), R w cs[j] l[j]) : CL R RN T size w wj 0 v l :=
  ⟨cs, h1, h2, fun j a b => ⟨fun h => by omega, fun _ => h3 j a b⟩⟩
theorem CL.blkT (h : CL R RN T size w wj i v l) {g : Nat} (hg : blk v g) : w.heap.size ≤ g ∧ ∃ c, wj.heap[g]? = some (.cells c T (0, 0)) := by
  obtain ⟨_, _, h, _⟩ := h
  exact h.blk hg
end
abbrev CI (w wj : World) (i : Nat) (v : Value) (l : List TxI) : Prop := CL InAt InN 50 36 w wj i v l
abbrev CO (w wj : World) (i : Nat) (v : Value) (l : List TxO) : Prop := CL OuAt OuN 54 2 w wj i v l
structure CT (w wj : World) (p1 p2 : Nat) (t : TxV) (vi vo : Value) (i1 i2 : Nat) : Prop where
  ext : Ext w wj
  c1 : wj.heap[p1]? = some (.cells (txC t vi vo) 26 (0, 0))
  c2 : ∃ c, wj.heap[p2]? = some (.cells c 26 (0, 0)) ∧ c.size = 4
  ins : CI w wj i1 vi t.ins
  outs : CO w wj i2 vo t.outs
  l1 : w.heap.size ≤ p1
  l2 : w.heap.size ≤ p2
  ne : p1 ≠ p2
theorem CT.keep {w wj w' : World} {p1 p2 i1 i2 : Nat} {t : TxV} {vi vo : Value} (h : CT w wj p1 p2 t vi vo i1 i2) (k : Ext wj w') : CT w w' p1 p2 t vi vo i1 i2 := by
  obtain ⟨c, h2, h3⟩ := h.c2
  exact ⟨h.ext.ext k, k.at h.c1 (fun h => h), ⟨c, k.at h2 (fun h => h), h3⟩, CL.keepT h.ins k (fun _ h => h.elim) fun _ _ h => h.ext k, CL.keepT h.outs k (fun _ h => h.elim) fun _ _ h => h.ext k, h.l1, h.l2, h.ne⟩
/-- The second phase's step: an output's script is copied. -/
theorem CT.setO {w wj : World} {p1 p2 i1 i : Nat} {t : TxV} {vi vo : Value} (h : CT w wj p1 p2 t vi vo i1 i) {g o n cap : Nat} (he : vo = .slice (some ⟨g, o, none⟩) n cap) (hi : i < t.outs.length) {u : Value} (hu : N1 w.heap.size wj u t.outs[i].script) :
    wr1 wj g (o + i * 2 + 1) ∧ CT w (wj.setCell ⟨g, o + i * 2 + 1, none⟩ u) p1 p2 t vi vo i1 (i + 1) := by
  have hk : Keep (fun y => y = g) wj (wj.setCell ⟨g, o + i * 2 + 1, none⟩ u) := (Keep.refl _ wj).setCell _ fun _ => rfl
  obtain ⟨hm, cur, hg⟩ := CL.blkT h.outs (g := g) (by rw [he]; rfl)
  have n5 := ne_T (T' := 5) hg (by decide)
  have n26 := ne_T (T' := 26) hg (by decide)
  have n27 := ne_T (T' := 27) hg (by decide)
  have n50 := ne_T (T' := 50) hg (by decide)
  obtain ⟨c, h2, h3⟩ := h.c2
  obtain ⟨ds, b1, b2, b3⟩ := h.outs
  obtain ⟨g', o', cap', e, hb, hw, hO⟩ := b2.setc (e := i) (j := 1) (by omega) (by decide) u
  rw [he] at e
  injection e with e1 e2 e3
  injection e1 with e1
  injection e1 with e4 e5
  subst e4 e5
  refine ⟨hw, h.ext.trans hk fun y hy e => by omega, hk.at h.c1 fun e => n26 _ (e ▸ h.c1), ⟨c, hk.at h2 fun e => n26 _ (e ▸ h2), h3⟩, CL.keepT h.ins hk (fun g' hg' c => by subst hg'; exact n50 c) fun _ _ hR => hR.keepT hk fun g' hg' c => by subst hg'; exact ⟨n5 c, n27 c⟩,
    ⟨_, by rw [List.length_set]; exact b1, hO, fun j a b => ?_⟩, h.l1, h.l2, h.ne⟩
  rw [List.length_set] at a
  by_cases hj : i = j
  · subst hj
    rw [List.getElem_set_self]
    refine ⟨fun _ => ?_, fun h => by omega⟩
    obtain ⟨sv, e, _⟩ := (b3 i a b).2 (Nat.le_refl _)
    exact ⟨u, by rw [e]; rfl, hu.keepT hk fun g' hg' c => by subst hg'; exact n5 c⟩
  · rw [List.getElem_set_ne hj]
    exact ⟨fun hji => ((b3 j a b).1 (by omega)).keepT hk fun g' hg' c => by subst hg'; exact n5 c, fun hji => (b3 j a b).2 (by omega)⟩
theorem CL.at {α : Type} {R : World → Array Value → α → Prop} {RN : Nat → World → Array Value → α → Prop} {T size : Nat} {w wj : World} {i : Nat} {v : Value} {l : List α} (h : CL R RN T size w wj i v l) (hi : i < l.length) :
    ∃ g o cap c, v = .slice (some ⟨g, o, none⟩) l.length cap ∧ rdO wj.heap[g]? (o + i * size) size = some c ∧ R w c l[i] := by
  obtain ⟨cs, h1, h2, h3⟩ := h
  obtain ⟨g, o, cap, cur, e, hg, hr⟩ := h2.at (j := i) (by omega)
  rw [h1] at e
  exact ⟨g, o, cap, cs[i], e, hr, (h3 i (by omega) hi).2 (Nat.le_refl _)⟩
set_option maxHeartbeats 1600000 in
theorem clone_outs (w : World) (p1 p2 : Nat) (t : TxV) (iv0 ov0 : Value) (hz : ∀ y ∈ t.outs, y.script.length ≤ 1000000) (hlo : t.outs.length ≤ 100000) (vi vo : Value) :
    ∀ (k i : Nat) (wj : World) (tl : Env), k + i = t.outs.length → CT w wj p1 p2 t vi vo t.ins.length i →
      W Try.prog (Ret fun u w' => ∃ iv' ov', u = .agg (txC t iv' ov') ∧ InsN w.heap.size w' iv' t.ins ∧ OusN w.heap.size w' ov' t.outs ∧ Ext w w') 25 8 ((1, .pointer (some ⟨p1, 0, none⟩)) :: (2, .pointer (some ⟨p2, 0, none⟩)) :: (67, .int .i64 (t.outs.length : Nat)) :: (68, .int .i64 (i : Nat)) :: tl) wj := by
  intro k
  induction k with
  | zero =>
    intro i wj tl hi hP
    have hil : ¬ ((i : Int) < (t.outs.length : Nat)) := by omega
    have d1 := hP.c1
    obtain ⟨cc, d2, hcc⟩ := hP.c2
    have r4 : rdO (some (.cells (txC t vi vo) 26 (0, 0))) 0 4 = some (txC t vi vo) := rdO_all _ _ _ _ rfl
    have z4 := txC_sz t vi vo
    have o4 : okO (some (.cells cc 26 (0, 0))) 0 4 = True := by simp only [okO, hcc]; simp
    have hI := CL.done hP.ins (Nat.le_refl _)
    have hO := CL.done hP.outs (by omega)
    (refine W_at c25_ok ?_; refine ⟨_, rfl, ?_⟩; simp (disch := first | omega | assumption | rfl | (simp only [vcS] <;> omega) | fail) only [↓vcA, vcB, ↓reduceIte, Nat.reduceEqDiff, Option.bind_some, hil])
    (refine W_at c25_ok ?_; refine ⟨_, rfl, ?_⟩; simp (disch := first | omega | assumption | rfl | (simp only [vcS] <;> omega) | fail) only [↓vcA, vcB, ↓reduceIte, Nat.reduceEqDiff])
    (refine W_at c25_ok ?_; refine ⟨_, rfl, ?_⟩; simp (disch := first | omega | assumption | rfl | (simp only [vcS] <;> omega) | fail) only [↓ptV_l, ↓vcA, vcB, ↓reduceIte, Nat.reduceEqDiff, Option.bind_some, Option.map_some, vcM, d1, r4, z4, d2, o4])
    have hfl : flat (txC t vi vo) := by
      have a1 := ListN.one hI
      have a2 := ListN.one hO
      intro y hy; simp only [txC, List.mem_cons, List.not_mem_nil, or_false] at hy; rcases hy with rfl | rfl | rfl | rfl <;> first | rfl | assumption
    refine ⟨hfl, ?_⟩
    have hk : Keep (fun g => g = p2) wj (wj.putN p2 0 (txC t vi vo)) := (Keep.refl _ wj).putN _ fun _ => rfl
    have d9 : (wj.putN p2 0 (txC t vi vo)).heap[p2]? = some (.cells (txC t vi vo) 26 (0, 0)) := by
      rw [heap_putN_eq d2, splice_all (by rw [hcc, txC_sz])]
    have l2 := hP.l2
    (refine W_at c25_ok ?_; refine ⟨_, rfl, ?_⟩; simp (disch := first | omega | assumption | rfl | (simp only [vcS] <;> omega) | fail) only [↓vcA, vcB, ↓reduceIte, Option.bind_some, Option.map_some, vcM, d9, r4, Ret_returned])
    exact ⟨vi, vo, rfl, InsN.setT hI hk d2 (by decide) (by decide) (by decide), OusN.setT hO hk d2 (by decide) (by decide), hP.ext.trans hk fun g hg e => by omega⟩
  | succ k ih =>
    intro i wj tl hi hP
    have hi0 : i < t.outs.length := by omega
    have hil : ((i : Int) < (t.outs.length : Nat)) := by omega
    have c3 : 0 ≤ (i : Int) ∧ (i : Int) < (t.outs.length : Nat) := by omega
    have d1 := hP.c1
    obtain ⟨g, o, cap, c, hvo, hrd, sv, rfl, hsv⟩ := CL.at hP.outs hi0
    have q1 := rdO_cell hrd (j := 1) (by omega)
    have q1' : (oC t.outs[i] sv)[1]? = some sv := rfl
    rw [q1'] at q1
    (refine W_at c25_ok ?_; refine ⟨_, rfl, ?_⟩; simp (disch := first | omega | assumption | rfl | (simp only [vcS] <;> omega) | fail) only [↓vcA, vcB, ↓reduceIte, Nat.reduceEqDiff, Option.bind_some, hil])
    (refine W_at c25_ok ?_; refine ⟨_, rfl, ?_⟩; simp (disch := first | omega | assumption | rfl | (simp only [vcS] <;> omega) | fail) only [↓vcA, vcB, ↓reduceIte, Nat.reduceEqDiff])
    (refine W_at c25_ok ?_; refine ⟨_, rfl, ?_⟩; simp (disch := first | omega | assumption | rfl | (simp only [vcS] <;> omega) | fail) only [↓vcA, vcB, ↓reduceIte, Nat.reduceEqDiff])
    (refine W_at c25_ok ?_; refine ⟨_, rfl, ?_⟩; simp (disch := first | omega | assumption | rfl | (simp only [vcS] <;> omega) | fail) only [↓ptV_l, ↓vcA, vcB, ↓reduceIte, Nat.reduceEqDiff, Option.bind_some, Option.map_some, vcM, d1, txC_2, hvo, c3, Int.toNat_natCast, q1])
    have hEd : Ext wj wj.drew := (Keep.refl _ wj).drew
    refine callV_ret (clone_ok wj.drew sv _ ((hsv.ext hP.ext).ext hEd) (by have := hz _ (List.getElem_mem hi0); omega)) ?_
    rintro u w6 ⟨hu1, hu2, hu3⟩
    have hE6 : Ext wj w6 := hEd.ext hu2
    have d16 := hE6.at d1 (fun h => h)
    first | (simp (disch := first | omega | assumption | rfl | (simp only [vcS] <;> omega) | fail) only [vcB, vcM, d16, txC_2, hvo]) | skip
    have hP6 := hP.keep hE6
    have hms := hP.ext.size
    obtain ⟨hw, hP7⟩ := hP6.setO hvo hi0 (u := u) ⟨hu1, fun g hg => Nat.le_trans (hP.keep hEd).ext.size (hu3 g hg)⟩
    have wi : IntKind.i64.wrap ((i : Int) + 1) = ((i + 1 : Nat) : Int) := wrap_i64 (by omega) (by omega)
    refine ⟨hu1.rd.one, hw, ?_⟩
    (refine W_at c25_ok ?_; refine ⟨_, rfl, ?_⟩; simp (disch := first | omega | assumption | rfl | (simp only [vcS] <;> omega) | fail) only [↓vcA, vcB, ↓reduceIte, Nat.reduceEqDiff, Option.bind_some, wi])
    (refine W_at c25_ok ?_; refine ⟨_, rfl, ?_⟩; simp (disch := first | omega | assumption | rfl | (simp only [vcS] <;> omega) | fail) only [vcB])
    exact ih (i + 1) _ _ (by omega) hP7
/-- One input's rows, the first of them copied. -/
structure RS (w wF wj : World) (g : Nat) (vi : Value) (cs : List (Array Value)) (u1 u2 : Value) (x : TxI) (kk : Nat) : Prop where
  k0 : Keep (fun y => y = g) wF wj
  arr : OwnO wj w.heap.size 50 36 vi cs
  s1 : N1 w.heap.size wj u1 x.script
  rows : ∃ vs : List Value, OwnO wj wF.heap.size 27 1 u2 (vs.map fun v => #[v]) ∧ vs.length = x.wit.length ∧ ∀ j (h : j < vs.length) (h' : j < x.wit.length), (j < kk → N1 w.heap.size wj vs[j] x.wit[j]) ∧ (kk ≤ j → Rd w vs[j] x.wit[j])
theorem RS.keep {w wF wj w' : World} {g : Nat} {vi : Value} {cs : List (Array Value)} {u1 u2 : Value} {x : TxI} {kk : Nat} (h : RS w wF wj g vi cs u1 u2 x kk) (k : Ext wj w') : RS w wF w' g vi cs u1 u2 x kk := by
  obtain ⟨vs, h1, h2, h3⟩ := h.rows
  exact ⟨h.k0.ext k, h.arr.ext k, h.s1.ext k, vs, h1.ext k, h2, fun j a b => ⟨fun hj => ((h3 j a b).1 hj).ext k, (h3 j a b).2⟩⟩
theorem RS.step {w wF wj : World} {g : Nat} {vi : Value} {cs : List (Array Value)} {u1 u2 u3 : Value} {x : TxI} {kk : Nat} (h : RS w wF wj g vi cs u1 u2 x kk) (hk : kk < x.wit.length) (hu : N1 w.heap.size wj u3 x.wit[kk]) {gw ow n cap : Nat} (he : u2 = .slice (some ⟨gw, ow, none⟩) n cap) :
    wr1 wj gw (ow + kk) ∧ RS w wF (wj.setCell ⟨gw, ow + kk, none⟩ u3) g vi cs u1 u2 x (kk + 1) := by
  obtain ⟨vs, h1, h2, h3⟩ := h.rows
  obtain ⟨g', o', cap', e, hb, hw, hO⟩ := h1.setc (e := kk) (j := 0) (by rw [List.length_map]; omega) (by decide) u3
  rw [he] at e
  injection e with e1 e2 e3
  injection e1 with e1
  injection e1 with e4 e5
  subst e4 e5
  rw [Nat.mul_one, Nat.add_zero] at hw hO
  obtain ⟨hm, cur, hg⟩ := h1.blk (g := gw) (by rw [he]; rfl)
  have n5 := ne_T (T' := 5) hg (by decide)
  have n50 := ne_T (T' := 50) hg (by decide)
  have k2 : Keep (fun y => y = gw) wj (wj.setCell ⟨gw, ow + kk, none⟩ u3) := (Keep.refl _ wj).setCell _ fun _ => rfl
  have hvk : kk < vs.length := by omega
  refine ⟨hw, h.k0.trans k2 fun y hy e => by omega, h.arr.keep k2 fun y hy e => by obtain ⟨_, c, hc⟩ := h.arr.blk hy; subst e; exact n50 c hc, h.s1.keepT k2 fun y hy c => by subst hy; exact n5 c, vs.set kk u3, ?_, by rw [List.length_set]; exact h2, fun j a b => ?_⟩
  · have e : (vs.map fun v => (#[v] : Array Value)).set kk (((vs.map fun v => (#[v] : Array Value))[kk]'(by rw [List.length_map]; exact hvk)).setIfInBounds 0 u3) = (vs.set kk u3).map fun v => #[v] := by
      rw [List.map_set, List.getElem_map]; rfl
    rw [e] at hO
    exact hO
  · rw [List.length_set] at a
    by_cases hj : kk = j
    · subst hj
      rw [List.getElem_set_self]
      exact ⟨fun _ => hu.keepT k2 fun y hy c => by subst hy; exact n5 c, fun h => by omega⟩
    · rw [List.getElem_set_ne hj]
      exact ⟨fun hjk => ((h3 j a b).1 (by omega)).keepT k2 fun y hy c => by subst hy; exact n5 c, fun hjk => (h3 j a b).2 (by omega)⟩
theorem RS.done {w wF wj : World} {p1 p2 i : Nat} {t : TxV} {vi vo : Value} {g o n cap : Nat} {cs : List (Array Value)} {u1 u2 : Value} (hF : CT w wF p1 p2 t vi vo i 0) (he : vi = .slice (some ⟨g, o, none⟩) n cap) (hi : i < t.ins.length)
    (b1 : cs.length = t.ins.length) (b3 : ∀ j (h : j < cs.length) (h' : j < t.ins.length), (j < i → InN w.heap.size wF cs[j] t.ins[j]) ∧ (i ≤ j → InAt w cs[j] t.ins[j]))
    (h : RS w wF wj g vi (cs.set i (iC t.ins[i] u1 u2)) u1 u2 t.ins[i] t.ins[i].wit.length) : CT w wj p1 p2 t vi vo (i + 1) 0 := by
  obtain ⟨hm, cur, hg⟩ := CL.blkT hF.ins (g := g) (by rw [he]; rfl)
  have n5 := ne_T (T' := 5) hg (by decide)
  have n26 := ne_T (T' := 26) hg (by decide)
  have n27 := ne_T (T' := 27) hg (by decide)
  have n54 := ne_T (T' := 54) hg (by decide)
  obtain ⟨c, h2, h3⟩ := hF.c2
  obtain ⟨vs, r1, r2, r3⟩ := h.rows
  have hk := h.k0
  refine ⟨hF.ext.trans hk fun y hy e => by omega, hk.at hF.c1 fun e => n26 _ (e ▸ hF.c1), ⟨c, hk.at h2 fun e => n26 _ (e ▸ h2), h3⟩, ⟨_, by rw [List.length_set]; exact b1, h.arr, fun j a b => ?_⟩,
    CL.keepT hF.outs hk (fun g' hg' c => by subst hg'; exact n54 c) fun _ _ hR => hR.keepT hk fun g' hg' c => by subst hg'; exact n5 c, hF.l1, hF.l2, hF.ne⟩
  rw [List.length_set] at a
  by_cases hj : i = j
  · subst hj
    rw [List.getElem_set_self]
    exact ⟨fun _ => ⟨u1, u2, rfl, h.s1, vs, r1.base hF.ext.size, r2, fun j a b => (r3 j a b).1 b⟩, fun h => by omega⟩
  · rw [List.getElem_set_ne hj]
    exact ⟨fun hji => ((b3 j a b).1 (by omega)).keepT hk fun g' hg' c => by subst hg'; exact ⟨n5 c, n27 c⟩, fun hji => (b3 j a b).2 (by omega)⟩
end Go.Proofs
namespace Go.Proofs
open Go.Vc
set_option maxRecDepth 10000

set_option maxHeartbeats 1600000 in
theorem clone_rows (Q : Ending → World → Prop) (w wF : World) (p1 p2 : Nat) (g o cap i ni : Nat) (vi : Value) (cs : List (Array Value)) (hcs : cs.length = ni) (hi : i < ni) (hvi : vi = .slice (some ⟨g, o, none⟩) ni cap) (x : TxI) (hx : x.prev.length = 32) (u1 u2 : Value) (hwl : ∀ p ∈ x.wit, p.length ≤ 140737488355328) (hwn : x.wit.length * 24 ≤ 140737488355328) (hEF : Ext w wF) (hgm : w.heap.size ≤ g)
    (hdone : ∀ wj tl, RS w wF wj g vi (cs.set i (iC x u1 u2)) u1 u2 x x.wit.length → W Try.prog Q 25 11 ((1, .pointer (some ⟨p1, 0, none⟩)) :: (2, .pointer (some ⟨p2, 0, none⟩)) :: (4, .pointer (some ⟨g, o + i * 36, none⟩)) :: (17, .int .i64 (ni : Nat)) :: (18, .int .i64 (i : Nat)) :: tl) wj) :
    ∀ (k j : Nat) (wj : World) (tl : Env), k + j = x.wit.length → RS w wF wj g vi (cs.set i (iC x u1 u2)) u1 u2 x j →
      W Try.prog Q 25 17 ((1, .pointer (some ⟨p1, 0, none⟩)) :: (2, .pointer (some ⟨p2, 0, none⟩)) :: (4, .pointer (some ⟨g, o + i * 36, none⟩)) :: (17, .int .i64 (ni : Nat)) :: (18, .int .i64 (i : Nat)) :: (45, .int .i64 (x.wit.length : Nat)) :: (46, .int .i64 (j : Nat)) :: tl) wj := by
  intro k
  induction k with
  | zero =>
    intro j wj tl hj hP
    have hil : ¬ ((j : Int) < (x.wit.length : Nat)) := by omega
    obtain rfl : j = x.wit.length := by omega
    (refine W_at c25_ok ?_; refine ⟨_, rfl, ?_⟩; simp (disch := first | omega | assumption | rfl | (simp only [vcS] <;> omega) | fail) only [↓vcA, vcB, ↓reduceIte, Nat.reduceEqDiff, Option.bind_some, hil])
    (refine W_at c25_ok ?_; refine ⟨_, rfl, ?_⟩; simp (disch := first | omega | assumption | rfl | (simp only [vcS] <;> omega) | fail) only [↓vcA, vcB, ↓reduceIte, Nat.reduceEqDiff])
    exact hdone wj _ hP
  | succ k ih =>
    intro j wj tl hj hP
    have hil : ((j : Int) < (x.wit.length : Nat)) := by omega
    have hj0 : j < x.wit.length := by omega
    have wi : IntKind.i64.wrap ((j : Int) + 1) = ((j + 1 : Nat) : Int) := wrap_i64 (by omega) (by omega)
    obtain ⟨vs, r1, r2, r3⟩ := hP.rows
    have hlm : (vs.map fun v => (#[v] : Array Value)).length = x.wit.length := by rw [List.length_map]; exact r2
    obtain ⟨gw, ow, capw, curw, e2, hgw, hrw⟩ := r1.at (j := j) (by omega)
    rw [hlm] at e2
    have qc := rdO_cell hrw (j := 0) (by omega)
    rw [Nat.mul_one, Nat.add_zero, List.getElem_map] at qc
    have qc' : cellO wj.heap[gw]? (ow + j) = some vs[j] := qc
    have hrd := (r3 j (by omega) hj0).2 (Nat.le_refl _)
    have hwE : Keep (fun y => y = g) w wj := (hEF.mono fun _ h => h.elim).trans hP.k0 fun y hy e => e
    have hrdj : Rd wj vs[j] x.wit[j] := hrd.keep0 hwE fun h0 q n c e e' => by have := hrd.lt h0 q n c e; omega
    have harr := hP.arr.at (j := i) (by rw [List.length_set]; omega)
    obtain ⟨ga, oa, capa, cura, ea, hga, hra⟩ := harr
    rw [List.getElem_set_self] at hra
    have hra0 : rdO wj.heap[g]? (o + i * 36) 36 = some (iC x u1 u2) := by
      rw [hvi] at ea
      injection ea with e5 e6 e7
      injection e5 with e5
      injection e5 with e8 e9
      rw [e8, e9]; exact hra
    have qw := rdO_cell hra0 (j := 35) (by omega)
    rw [iC_35 hx] at qw
    have c4 : 0 ≤ (j : Int) ∧ (j : Int) < (x.wit.length : Nat) := by omega
    have hEd : Ext wj wj.drew := (Keep.refl _ wj).drew
    (refine W_at c25_ok ?_; refine ⟨_, rfl, ?_⟩; simp (disch := first | omega | assumption | rfl | (simp only [vcS] <;> omega) | fail) only [↓vcA, vcB, ↓reduceIte, Nat.reduceEqDiff, Option.bind_some, hil])
    (refine W_at c25_ok ?_; refine ⟨_, rfl, ?_⟩; simp (disch := first | omega | assumption | rfl | (simp only [vcS] <;> omega) | fail) only [↓vcA, vcB, ↓reduceIte, Nat.reduceEqDiff])
    (refine W_at c25_ok ?_; refine ⟨_, rfl, ?_⟩; simp (disch := first | omega | assumption | rfl | (simp only [vcS] <;> omega) | fail) only [↓vcA, vcB, ↓reduceIte, Nat.reduceEqDiff])
    (refine W_at c25_ok ?_; refine ⟨_, rfl, ?_⟩; simp (disch := first | omega | assumption | rfl | (simp only [vcS] <;> omega) | fail) only [↓ptV_l, ↓vcA, vcB, ↓reduceIte, Nat.reduceEqDiff, Option.bind_some, Option.map_some, vcM, qw, e2, c4, Int.toNat_natCast, Nat.mul_one, qc'])
    refine callV_ret (clone4_ok wj.drew vs[j] _ (hrdj.ext hEd) (hwl _ (List.getElem_mem hj0))) ?_
    rintro u w6 ⟨hu1, hu2, hu3⟩
    have hE6 : Ext wj w6 := hEd.ext hu2
    have qw6 := cell_ext qw hE6
    have hP6 := hP.keep hE6
    have hsz6 : w.heap.size ≤ wj.drew.heap.size := Nat.le_trans hEF.size (hP.k0.ext hEd).size
    obtain ⟨hw, hP7⟩ := hP6.step hj0 (u3 := u) ⟨hu1, fun g hg => Nat.le_trans hsz6 (hu3 g hg)⟩ e2
    first | (simp (disch := first | omega | assumption | rfl | (simp only [vcS] <;> omega) | fail) only [vcB, qw6, e2]) | skip
    refine ⟨hu1.rd.one, hw, ?_⟩
    (refine W_at c25_ok ?_; refine ⟨_, rfl, ?_⟩; simp (disch := first | omega | assumption | rfl | (simp only [vcS] <;> omega) | fail) only [↓vcA, vcB, ↓reduceIte, Nat.reduceEqDiff, Option.bind_some, wi])
    (refine W_at c25_ok ?_; refine ⟨_, rfl, ?_⟩; simp (disch := first | omega | assumption | rfl | (simp only [vcS] <;> omega) | fail) only [vcB])
    exact ih (j + 1) _ _ (by omega) hP7
structure TxV.Sm (t : TxV) : Prop where
  ins : t.ins.length ≤ 100000
  outs : t.outs.length ≤ 100000
  inp : ∀ x ∈ t.ins, x.script.length ≤ 1000000 ∧ x.wit.length * 24 ≤ 140737488355328 ∧ ∀ p ∈ x.wit, p.length ≤ 140737488355328
  out : ∀ y ∈ t.outs, y.script.length ≤ 1000000
set_option maxHeartbeats 3200000 in
theorem clone_ins (w : World) (p1 p2 : Nat) (t : TxV) (hok : t.Ok) (hs : t.Sm) (vi vo : Value) :
    ∀ (k i : Nat) (wj : World) (tl : Env), k + i = t.ins.length → CT w wj p1 p2 t vi vo i 0 →
      W Try.prog (Ret fun u w' => ∃ iv' ov', u = .agg (txC t iv' ov') ∧ InsN w.heap.size w' iv' t.ins ∧ OusN w.heap.size w' ov' t.outs ∧ Ext w w') 25 23 ((1, .pointer (some ⟨p1, 0, none⟩)) :: (2, .pointer (some ⟨p2, 0, none⟩)) :: (17, .int .i64 (t.ins.length : Nat)) :: (18, .int .i64 (i : Nat)) :: tl) wj := by
  intro k
  induction k with
  | zero =>
    intro i wj tl hi hP
    have hil : ¬ ((i : Int) < (t.ins.length : Nat)) := by omega
    obtain rfl : i = t.ins.length := by omega
    have d1 := hP.c1
    have hlen := CL.len hP.outs
    (refine W_at c25_ok ?_; refine ⟨_, rfl, ?_⟩; simp (disch := first | omega | assumption | rfl | (simp only [vcS] <;> omega) | fail) only [↓vcA, vcB, ↓reduceIte, Nat.reduceEqDiff, Option.bind_some, hil])
    (refine W_at c25_ok ?_; refine ⟨_, rfl, ?_⟩; simp (disch := first | omega | assumption | rfl | (simp only [vcS] <;> omega) | fail) only [↓vcA, vcB, ↓reduceIte, Nat.reduceEqDiff])
    (refine W_at c25_ok ?_; refine ⟨_, rfl, ?_⟩; simp (disch := first | omega | assumption | rfl | (simp only [vcS] <;> omega) | fail) only [↓vcA, vcB, ↓reduceIte, Nat.reduceEqDiff, Option.bind_some, vcM, d1, txC_2, hlen])
    exact clone_outs w p1 p2 t vi vo hs.out hs.outs vi vo t.outs.length 0 wj _ (by omega) hP
  | succ k ih =>
    intro i wj tl hi hP
    have hi0 : i < t.ins.length := by omega
    have hil : ((i : Int) < (t.ins.length : Nat)) := by omega
    have c3 : 0 ≤ (i : Int) ∧ (i : Int) < (t.ins.length : Nat) := by omega
    have wi : IntKind.i64.wrap ((i : Int) + 1) = ((i + 1 : Nat) : Int) := wrap_i64 (by omega) (by have := hs.ins; omega)
    have d1 := hP.c1
    have hoi := hok.ins _ (List.getElem_mem hi0)
    have hsi := hs.inp _ (List.getElem_mem hi0)
    obtain ⟨g, o, cap, c, hvi, hrd, sv, wv, rfl, hsv, hwv⟩ := CL.at hP.ins hi0
    obtain ⟨hgm, curg, hg⟩ := CL.blkT hP.ins (g := g) (by rw [hvi]; rfl)
    have q33 := rdO_cell hrd (j := 33) (by omega)
    rw [iC_33 hoi.len] at q33
    have q35 := rdO_cell hrd (j := 35) (by omega)
    rw [iC_35 hoi.len] at q35
    (refine W_at c25_ok ?_; refine ⟨_, rfl, ?_⟩; simp (disch := first | omega | assumption | rfl | (simp only [vcS] <;> omega) | fail) only [↓vcA, vcB, ↓reduceIte, Nat.reduceEqDiff, Option.bind_some, hil])
    (refine W_at c25_ok ?_; refine ⟨_, rfl, ?_⟩; simp (disch := first | omega | assumption | rfl | (simp only [vcS] <;> omega) | fail) only [↓vcA, vcB, ↓reduceIte, Nat.reduceEqDiff])
    (refine W_at c25_ok ?_; refine ⟨_, rfl, ?_⟩; simp (disch := first | omega | assumption | rfl | (simp only [vcS] <;> omega) | fail) only [↓vcA, vcB, ↓reduceIte, Nat.reduceEqDiff])
    (refine W_at c25_ok ?_; refine ⟨_, rfl, ?_⟩; simp (disch := first | omega | assumption | rfl | (simp only [vcS] <;> omega) | fail) only [↓vcA, vcB, ↓reduceIte, Nat.reduceEqDiff, Option.bind_some, vcM, d1, txC_1, hvi, c3, Int.toNat_natCast])
    (refine W_at c25_ok ?_; refine ⟨_, rfl, ?_⟩; simp (disch := first | omega | assumption | rfl | (simp only [vcS] <;> omega) | fail) only [↓ptV_l, ↓vcA, vcB, ↓reduceIte, Nat.reduceEqDiff, Option.bind_some, Option.map_some, vcM, q33, q35])
    have hEd : Ext wj wj.drew := (Keep.refl _ wj).drew
    refine callV_ret (clone_ok wj.drew sv _ ((hsv.ext hP.ext).ext hEd) (by omega)) ?_
    rintro u1 w6 ⟨hu1, hu2, hu3⟩
    have hE6 : Ext wj w6 := hEd.ext hu2
    have q356 := cell_ext q35 hE6
    have hF := hP.keep hE6
    first | (simp (disch := first | omega | assumption | rfl | (simp only [vcS] <;> omega) | fail) only [vcB, q356]) | skip
    obtain ⟨vs, v1, v2, ⟨qv, cv, v3, v4⟩, v5, v6⟩ := hwv
    have hrv : rdS w 1 wv = some ((vs.map fun v => (#[v] : Array Value)).flatMap Array.toList).toArray := by rw [flat1_list]; exact v1
    have hrv6 : rdS w6 1 wv = some ((vs.map fun v => (#[v] : Array Value)).flatMap Array.toList).toArray := by
      subst v3
      exact rdS_keep hrv hF.ext fun _ _ h => h
    have hvl : (vs.map fun v => (#[v] : Array Value)).length = t.ins[i].wit.length := by rw [List.length_map]; exact v2
    refine callV_ret (cloneR_ok w6 wv (vs.map fun v => #[v]) hrv6 (by simp) (fun c hc => ?_) ⟨qv, cv, by rw [hvl]; exact v3, by omega⟩ (by omega)) ?_
    · obtain ⟨v, hv, rfl⟩ := List.mem_map.1 hc
      obtain ⟨j, hj, rfl⟩ := List.getElem_of_mem hv
      rw [flat_1]
      exact (v6 j hj (by omega)).one
    rintro u2 w7 ⟨hO2, hE7⟩
    first | (simp (disch := first | omega | assumption | rfl | (simp only [vcS] <;> omega) | fail) only [↓ptV_l, ↓vcA, vcB, ↓vcD, vcE, ↓reduceIte, Nat.reduceEqDiff, Nat.reduceAdd, Nat.reduceMul, Nat.reduceLeDiff, Int.reduceLE, Int.reduceLT, Int.reduceEq, Int.reduceToNat, Int.reduceAdd, Int.reduceSub, Int.reduceMul, Int.reduceNeg, reduceCtorEq, Option.bind_some, Option.map_some, List.length_cons, List.length_nil, vcM, List.getElem?_toArray, List.getElem?_cons_zero, List.getElem?_cons_succ]) | skip
    obtain ⟨cs, b1, b2, b3⟩ := hF.ins
    obtain ⟨sv', wv', hci, _⟩ := (b3 i (by omega) hi0).2 (Nat.le_refl _)
    have hg7 := hE7.at (hE6.at hg (fun h => h)) (fun h => h)
    obtain ⟨g1, o1, cap1, e1, _, hw1, hO1⟩ := (b2.ext hE7).setc (e := i) (j := 33) (by omega) (by decide) u1
    have hgo : g1 = g ∧ o1 = o := by
      rw [hvi] at e1
      injection e1 with e1
      injection e1 with e1
      injection e1 with e1 e2
      exact ⟨e1.symm, e2.symm⟩
    obtain ⟨rfl, rfl⟩ := hgo
    rw [hci, iC_set33 hoi.len] at hO1
    obtain ⟨g2, o2, cap2, e2, _, hw2, hO3⟩ := hO1.setc (e := i) (j := 35) (by rw [List.length_set]; omega) (by decide) u2
    have hgo : g2 = g1 ∧ o2 = o1 := by
      rw [hvi] at e2
      injection e2 with e2
      injection e2 with e2
      injection e2 with e1 e2
      exact ⟨e1.symm, e2.symm⟩
    obtain ⟨rfl, rfl⟩ := hgo
    rw [List.getElem_set_self, iC_set35 hoi.len, List.set_set] at hO3
    refine ⟨hu1.rd.one, hw1, hO2.one, hw2, ?_⟩
    have n5 := ne_T (T' := 5) hg7 (by decide)
    have n27 := ne_T (T' := 27) hg7 (by decide)
    have ka : Keep (fun y => y = g2) w7 (w7.setCell ⟨g2, o2 + i * 36 + 33, none⟩ u1) := (Keep.refl _ w7).setCell _ fun _ => rfl
    have kb : Keep (fun y => y = g2) w7 ((w7.setCell ⟨g2, o2 + i * 36 + 33, none⟩ u1).setCell ⟨g2, o2 + i * 36 + 35, none⟩ u2) := ka.setCell _ fun _ => rfl
    have hms := (hP.keep hEd).ext.size
    have hE7' : Keep (fun y => y = g2) w6 w7 := hE7.mono fun _ h => h.elim
    have hR : RS w w6 ((w7.setCell ⟨g2, o2 + i * 36 + 33, none⟩ u1).setCell ⟨g2, o2 + i * 36 + 35, none⟩ u2) g2 vi (cs.set i (iC t.ins[i] u1 u2)) u1 u2 t.ins[i] 0 := by
      refine ⟨hE7'.trans kb fun y hy e => e, hO3, ?_, vs, hO2.keep kb fun y hy e => ?_, v2, fun j a b => ⟨fun h => by omega, fun _ => v6 j a b⟩⟩
      · exact N1.keepT ⟨hu1.ext hE7, fun y hy => Nat.le_trans hms (hu3 y hy)⟩ kb fun y hy c => by subst hy; exact n5 c
      · obtain ⟨_, c, hc⟩ := hO2.blk hy
        subst e
        exact n27 c hc
    generalize hw9 : World.setCell _ _ _ = w9 at hR ⊢
    have hlen2 : lenR u2 = some (.int .i64 (t.ins[i].wit.length : Nat)) := by rw [hO2.len, hvl]
    have q35' : cellO w9.heap[g2]? (o2 + i * 36 + 35) = some u2 := by
      obtain ⟨ga, oa, capa, cura, ea, hga, hra⟩ := hR.arr.at (j := i) (by rw [List.length_set]; omega)
      rw [List.getElem_set_self] at hra
      have := rdO_cell hra (j := 35) (by omega)
      rw [iC_35 hoi.len] at this
      rw [hvi] at ea
      injection ea with e5 e6 e7
      injection e5 with e5
      injection e5 with e8 e9
      rw [e8, e9]; exact this
    (refine W_at c25_ok ?_; refine ⟨_, rfl, ?_⟩; simp (disch := first | omega | assumption | rfl | (simp only [vcS] <;> omega) | fail) only [↓vcA, vcB, ↓reduceIte, Nat.reduceEqDiff, Option.bind_some, vcM, q35', hlen2])
    refine clone_rows _ w w6 p1 p2 g2 o2 cap i t.ins.length vi cs b1 hi0 hvi t.ins[i] hoi.len u1 u2 hsi.2.2 hsi.2.1 hF.ext hgm ?_ t.ins[i].wit.length 0 w9 _ (by omega) hR
    intro wz tlz hRz
    have hz := RS.done hF hvi hi0 b1 b3 hRz
    (refine W_at c25_ok ?_; refine ⟨_, rfl, ?_⟩; simp (disch := first | omega | assumption | rfl | (simp only [vcS] <;> omega) | fail) only [↓vcA, vcB, ↓reduceIte, Nat.reduceEqDiff, Option.bind_some, wi])
    (refine W_at c25_ok ?_; refine ⟨_, rfl, ?_⟩; simp (disch := first | omega | assumption | rfl | (simp only [vcS] <;> omega) | fail) only [vcB])
    exact ih (i + 1) wz _ (by omega) hz
set_option maxHeartbeats 3200000 in
theorem tclone_ok (w : World) (iv ov : Value) (t : TxV) (hT : TxR w iv ov t) (hok : t.Ok) (hs : t.Sm) :
    Calls Try.prog 25 #[.agg (txC t iv ov)] w (Ret fun u w' => ∃ iv' ov', u = .agg (txC t iv' ov') ∧ InsN w.heap.size w' iv' t.ins ∧ OusN w.heap.size w' ov' t.outs ∧ Ext w w') := by
  refine calls_of_cfg c25_ok (Nat.le_of_ble_eq_true rfl) ?_
  simp only [argE_nil, argE_cons, Nat.zero_add]
  have hi1 := ListR.one hT.ins
  have ho1 := ListR.one hT.outs
  have hfx : flat (txC t iv ov) := by intro y hy; simp only [txC, List.mem_cons, List.not_mem_nil, or_false] at hy; rcases hy with rfl | rfl | rfl | rfl <;> first | rfl | assumption
  have hcx : (Value.agg (txC t iv ov)).cells = txC t iv ov := rfl
  have hzx := txC_sz t iv ov
  (refine W_at c25_ok ?_; refine ⟨_, rfl, ?_⟩; simp (disch := first | omega | assumption | rfl | (simp only [vcS] <;> omega) | fail) only [↓ptV_l, ↓vcA, vcB, ↓reduceIte, Nat.reduceEqDiff, vcM, hcx])
  have hE1 : Ext w (w.alloc (.cells (txC t iv ov) 26)) := (Keep.refl _ w).alloc _
  have c1 : (w.alloc (.cells (txC t iv ov) 26)).heap[w.heap.size]? = some (.cells (txC t iv ov) 26 (0, 0)) := heap_new _ _ _ rfl
  have s1 : (w.alloc (.cells (txC t iv ov) 26)).heap.size = w.heap.size + 1 := size_alloc _ _
  generalize World.alloc w _ = w1 at hE1 c1 s1 ⊢
  have hE2 : Ext w1 (w1.alloc (.cells (zc [(1, .int .i32 0), (2, .slice none 0 0), (1, .int .u32 0)]) 26)) := (Keep.refl _ w1).alloc _
  have c2 : (w1.alloc (.cells (zc [(1, .int .i32 0), (2, .slice none 0 0), (1, .int .u32 0)]) 26)).heap[w1.heap.size]? = some (.cells (zc [(1, .int .i32 0), (2, .slice none 0 0), (1, .int .u32 0)]) 26 (0, 0)) := heap_new _ _ _ rfl
  generalize World.alloc w1 _ = w2 at hE2 c2 ⊢
  rw [s1] at c2
  generalize hp1 : w.heap.size = p1 at c1 c2 s1 ⊢
  generalize hp2 : p1 + 1 = p2 at c2 s1 ⊢
  have c12 := hE2.at c1 (fun h => h)
  have hE02 := hE1.ext hE2
  have hEd : Ext w2 w2.drew := (Keep.refl _ w2).drew
  obtain ⟨cs, a1, a2, a3, ⟨qi, ci, a4, a5⟩, a6, a7⟩ := hT.ins
  obtain ⟨ds, b1, b2, b3, ⟨qo, co, b4, b5⟩, b6, b7⟩ := hT.outs
  have l1 := hs.ins
  have l2 := hs.outs
  have a3d : rdS w2.drew 36 iv = some (cs.flatMap Array.toList).toArray := by subst a4; exact rdS_keep a3 (hE02.ext hEd) fun _ _ h => h
  (refine W_at c25_ok ?_; refine ⟨_, rfl, ?_⟩; simp (disch := first | omega | assumption | rfl | (simp only [vcS] <;> omega) | fail) only [↓ptV_l, ↓vcA, vcB, ↓reduceIte, Nat.reduceEqDiff, Option.bind_some, Option.map_some, vcM, c12, txC_1, txC_2])
  refine callV_ret (cloneI_ok w2.drew iv cs a3d a2 (fun c hc => ?_) ⟨qi, ci, by rw [a1]; exact a4, by omega⟩ (by omega)) ?_
  · obtain ⟨j, hj, rfl⟩ := List.getElem_of_mem hc
    obtain ⟨sv, wv, e, r1, r2⟩ := a7 j hj (by omega)
    rw [e]; exact iC_flat r1.one (RowR.one r2)
  rintro vi w3 ⟨hO3, hE3⟩
  have c13 := hE3.at (hEd.at c12 (fun h => h)) (fun h => h)
  have c23 := hE3.at (hEd.at c2 (fun h => h)) (fun h => h)
  have b3d : rdS w3 2 ov = some (ds.flatMap Array.toList).toArray := by subst b4; exact rdS_keep b3 ((hE02.ext hEd).ext hE3) fun _ _ h => h
  first | (simp (disch := first | omega | assumption | rfl | (simp only [vcS] <;> omega) | fail) only [vcB, vcM, c13, txC_2]) | skip
  refine callV_ret (cloneO_ok w3 ov ds b3d b2 (fun c hc => ?_) ⟨qo, co, by rw [b1]; exact b4, by omega⟩ (by omega)) ?_
  · obtain ⟨j, hj, rfl⟩ := List.getElem_of_mem hc
    obtain ⟨sv, e, r1⟩ := b7 j hj (by omega)
    rw [e]; exact oC_flat r1.one
  rintro vo w4 ⟨hO4, hE4⟩
  have c14 := hE4.at c13 (fun h => h)
  have c24 := hE4.at c23 (fun h => h)
  first | (simp (disch := first | omega | assumption | rfl | (simp only [vcS] <;> omega) | fail) only [↓ptV_l, ↓vcA, vcB, ↓vcD, vcE, ↓reduceIte, Nat.reduceEqDiff, Nat.reduceAdd, Nat.reduceMul, Nat.reduceLeDiff, Int.reduceLE, Int.reduceLT, Int.reduceEq, Int.reduceToNat, Int.reduceAdd, Int.reduceSub, Int.reduceMul, Int.reduceNeg, reduceCtorEq, Option.bind_some, Option.map_some, List.length_cons, List.length_nil, vcM, List.getElem?_toArray, List.getElem?_cons_zero, List.getElem?_cons_succ, c14, txC_1, txC_2]) | skip
  have ka : Keep (fun y => y = p1) w4 (w4.setCell ⟨p1, 1, none⟩ vi) := (Keep.refl _ w4).setCell _ fun _ => rfl
  have kb : Keep (fun y => y = p1) w4 ((w4.setCell ⟨p1, 1, none⟩ vi).setCell ⟨p1, 2, none⟩ vo) := ka.setCell _ fun _ => rfl
  have d1 : (w4.setCell ⟨p1, 1, none⟩ vi).heap[p1]? = some (.cells (txC t vi ov) 26 (0, 0)) := by rw [heap_setCell_eq c14]; rfl
  have d2 : ((w4.setCell ⟨p1, 1, none⟩ vi).setCell ⟨p1, 2, none⟩ vo).heap[p1]? = some (.cells (txC t vi vo) 26 (0, 0)) := by rw [heap_setCell_eq d1]; rfl
  have n50 := ne_T (T' := 50) c14 (by decide)
  have n54 := ne_T (T' := 54) c14 (by decide)
  have hsd := (hE02.ext hEd).size
  have hP : CT w ((w4.setCell ⟨p1, 1, none⟩ vi).setCell ⟨p1, 2, none⟩ vo) p1 p2 t vi vo 0 0 :=
    ⟨(((hE02.ext hEd).ext hE3).ext hE4).trans kb fun y hy e => by omega, d2, ⟨_, kb.at c24 (by omega), by decide⟩,
      CL.start a1 (((hO3.ext hE4).keep kb fun y hy e => by obtain ⟨_, c, hc⟩ := (hO3.ext hE4).blk hy; subst e; exact n50 c hc).base hsd) a7,
      CL.start b1 ((hO4.keep kb fun y hy e => by obtain ⟨_, c, hc⟩ := hO4.blk hy; subst e; exact n54 c hc).base (Nat.le_trans hsd hE3.size)) b7, by omega, by omega, by omega⟩
  refine ⟨hO3.one, wr1_of c14 (by rw [txC_sz]; decide), hO4.one, wr1_of d1 (by rw [txC_sz]; decide), ?_⟩
  generalize World.setCell _ _ _ = w6 at hP d2 ⊢
  have hlen := CL.len hP.ins
  (refine W_at c25_ok ?_; refine ⟨_, rfl, ?_⟩; simp (disch := first | omega | assumption | rfl | (simp only [vcS] <;> omega) | fail) only [↓vcA, vcB, ↓reduceIte, Nat.reduceEqDiff, Option.bind_some, vcM, d2, txC_1, hlen])
  subst hp1
  exact clone_ins w _ p2 t hok hs vi vo t.ins.length 0 w6 _ (by omega) hP
end Go.Proofs
namespace Go.Proofs
open Go.Vc
set_option maxRecDepth 10000

theorem andK31 {x : Int} (h : 0 ≤ x ∧ x ≤ 255) : IntKind.u8.wrap (((BitVec.ofInt IntKind.u8.bits x &&& BitVec.ofInt IntKind.u8.bits 31).toNat : Nat) : Int) = x % 32 := by
  obtain ⟨n, rfl⟩ := Int.eq_ofNat_of_zero_le h.1
  have hd : ∀ n : Fin 256, IntKind.u8.wrap (((BitVec.ofInt IntKind.u8.bits ((n.val : Nat) : Int) &&& BitVec.ofInt IntKind.u8.bits 31).toNat : Nat) : Int) = ((n.val : Nat) : Int) % 32 := by decide +kernel
  exact hd ⟨n, by omega⟩
theorem andK128 {x : Int} (h : 0 ≤ x ∧ x ≤ 255) : IntKind.u8.wrap (((BitVec.ofInt IntKind.u8.bits x &&& BitVec.ofInt IntKind.u8.bits 128).toNat : Nat) : Int) = if 128 ≤ x then 128 else 0 := by
  obtain ⟨n, rfl⟩ := Int.eq_ofNat_of_zero_le h.1
  have hd : ∀ n : Fin 256, IntKind.u8.wrap (((BitVec.ofInt IntKind.u8.bits ((n.val : Nat) : Int) &&& BitVec.ofInt IntKind.u8.bits 128).toNat : Nat) : Int) = if 128 ≤ ((n.val : Nat) : Int) then 128 else 0 := by decide +kernel
  exact hd ⟨n, by omega⟩
theorem way_ok (w : World) (k : Int) (hk : 0 ≤ k ∧ k ≤ 255) :
    Calls Try.prog 23 #[.int .u8 k] w (Ret fun u w' => u = .tuple #[.int .u8 (k % 32), .bool (decide (128 ≤ k))] ∧ w' = w) := by
  refine calls_of_cfg c23_ok (Nat.le_of_ble_eq_true rfl) ?_
  simp only [argE_nil, argE_cons, Nat.zero_add]
  have a1 := andK31 hk
  have a2 := andK128 hk
  (refine W_at c23_ok ?_; refine ⟨_, rfl, ?_⟩; simp (disch := first | omega | assumption | rfl | (simp only [vcS] <;> omega) | fail) only [↓vcA, vcB, ↓reduceIte, reduceCtorEq])
  (refine W_at c23_ok ?_; refine ⟨_, rfl, ?_⟩; simp (disch := first | omega | assumption | rfl | (simp only [vcS] <;> omega) | fail) only [↓vcA, vcB, ↓reduceIte, Nat.reduceEqDiff, reduceCtorEq, Option.bind_some, a1, a2])
  (refine W_at c23_ok ?_; refine ⟨_, rfl, ?_⟩; simp (disch := first | omega | assumption | rfl | (simp only [vcS] <;> omega) | fail) only [↓vcA, vcB, ↓reduceIte, Nat.reduceEqDiff, Option.bind_some, Option.map_some, Ret_returned])
  by_cases h : 128 ≤ k
  · simp [h]
  · simp [h]
def oneD : List Int := 1 :: List.replicate 31 0
theorem nothing_ok (w : World) : Calls Try.prog 24 #[] w (Ret fun u w' => u = .agg (bv oneD).toArray ∧ Ext w w') := by
  refine calls_of_cfg c24_ok (Nat.le_of_ble_eq_true rfl) ?_
  simp only [argE_nil]
  (refine W_at c24_ok ?_; refine ⟨_, rfl, ?_⟩; simp (disch := first | omega | assumption | rfl | (simp only [vcS] <;> omega) | fail) only [↓ptV_l, ↓vcA, vcB, ↓reduceIte])
  have hb : #[Value.int .u8 1] ++ zc [(31, .int .u8 0)] = (bv oneD).toArray := rfl
  (refine W_at c24_ok ?_; refine ⟨_, rfl, ?_⟩; simp (disch := first | omega | assumption | rfl | (simp only [vcS] <;> omega) | fail) only [↓ptV_l, ↓vcA, vcB, ↓reduceIte, reduceCtorEq, Option.bind_some, Option.map_some, vcM, hb])
  have s32 : (bv oneD).toArray.size = 32 := rfl
  refine ⟨s32, bv_flat _, ?_⟩
  have hE6 : Ext w ((w.alloc (.cells (zc [(32, .int .u8 0)]) 36)).putN w.heap.size 0 (bv oneD).toArray) := ((Keep.refl _ w).alloc _).putN _ (by intro hh; exfalso; omega)
  have c15 : ((w.alloc (.cells (zc [(32, .int .u8 0)]) 36)).putN w.heap.size 0 (bv oneD).toArray).heap[w.heap.size]? = some (.cells (bv oneD).toArray 36 (0, 0)) := by
    rw [heap_putN_eq (heap_new _ _ _ rfl), splice_all (by rw [s32]; rfl)]
  have hr32 : rdO (some (.cells (bv oneD).toArray 36 (0, 0))) 0 32 = some (bv oneD).toArray := rdO_all _ _ _ _ s32
  (refine W_at c24_ok ?_; refine ⟨_, rfl, ?_⟩; simp (disch := first | omega | assumption | rfl | (simp only [vcS] <;> omega) | fail) only [↓vcA, vcB, ↓reduceIte, Option.bind_some, Option.map_some, vcM, c15, hr32, Ret_returned])
  exact hE6
/-- Bytes that a step on another's block doesn't touch. -/
def SR (m : Nat) (w : World) (v : Value) (bs : List Int) : Prop := Rd w v bs ∧ (bs ≠ [] → ∀ q n c, v = .slice (some q) n c → q.block < m ∨ ∃ cs, w.heap[q.block]? = some (.cells cs 5 (0, 0)))
theorem SR.keepT {m : Nat} {S : Nat → Prop} {w w' : World} {v : Value} {bs : List Int} (h : SR m w v bs) (k : Keep S w w') (hS : ∀ g, S g → m ≤ g ∧ ∀ c, w.heap[g]? ≠ some (.cells c 5 (0, 0))) : SR m w' v bs := by
  obtain ⟨h1, h2⟩ := h
  have hn : bs ≠ [] → ∀ q n c, v = .slice (some q) n c → ¬ S q.block := fun h0 q n c e hs => by
    rcases h2 h0 q n c e with h | ⟨cs, hc⟩
    · have := (hS _ hs).1; omega
    · exact (hS _ hs).2 cs hc
  exact ⟨h1.keep0 k hn, fun h0 q n c e => by
    rcases h2 h0 q n c e with h | ⟨cs, hc⟩
    · exact .inl h
    · exact .inr ⟨cs, k.at hc (hn h0 q n c e)⟩⟩
theorem N1.sr {m m' : Nat} {w : World} {v : Value} {bs : List Int} (h : N1 m w v bs) : SR m' w v bs := ⟨h.1.rd, fun _ q n c e => by subst e; exact .inr (row_type h.1 rfl)⟩
theorem SR.nil (m : Nat) (w : World) : SR m w (.slice none 0 0) [] := ⟨Rd.nil w, fun h => absurd rfl h⟩
theorem Rd.sr {w w' : World} {v : Value} {bs : List Int} (h : Rd w v bs) (k : Ext w w') : SR w.heap.size w' v bs := ⟨h.ext k, fun h0 q n c e => .inl (h.lt h0 q n c e)⟩
/-- The digest of the older way, plainly. -/
def legIn (i : Nat) (script : List Int) (o : Int) (k : Nat) (x : TxI) : TxI :=
  if k = i then { x with script := script } else { x with script := [], seq := if o = 2 ∨ o = 3 then 0 else x.seq }
end Go.Proofs
namespace Go.Proofs
open Go.Vc
set_option maxRecDepth 10000

def IQ (m : Nat) (w : World) (c : Array Value) (x : TxI) : Prop := ∃ sv wv, c = iC x sv wv ∧ SR m w sv x.script ∧ RowN m w wv x.wit
def OQ (m : Nat) (w : World) (c : Array Value) (y : TxO) : Prop := ∃ sv, c = oC y sv ∧ SR m w sv y.script
/-- A step on blocks of other types, from a block on. -/
def Far (m : Nat) (w : World) (S : Nat → Prop) : Prop := ∀ g, S g → m ≤ g ∧ (∀ c, w.heap[g]? ≠ some (.cells c 5 (0, 0))) ∧ ∀ c, w.heap[g]? ≠ some (.cells c 27 (0, 0))
theorem Far.none (m : Nat) (w : World) : Far m w fun _ => False := fun _ h => h.elim
theorem Far.one {m : Nat} {w : World} {g : Nat} {c : Array Value} {T : TypeId} (h : w.heap[g]? = some (.cells c T (0, 0))) (h5 : T ≠ 5) (h27 : T ≠ 27) (hm : m ≤ g) : Far m w fun y => y = g := fun y hy => by
  subst hy
  exact ⟨hm, ne_T h h5, ne_T h h27⟩
theorem IQ.keepT {m : Nat} {S : Nat → Prop} {w w' : World} {c : Array Value} {x : TxI} (h : IQ m w c x) (k : Keep S w w') (hS : Far m w S) : IQ m w' c x := by
  obtain ⟨sv, wv, h1, h2, h3⟩ := h
  exact ⟨sv, wv, h1, h2.keepT k fun g hg => ⟨(hS g hg).1, (hS g hg).2.1⟩, h3.keepT k fun g hg c => ⟨(hS g hg).2.1 c, (hS g hg).2.2 c⟩⟩
theorem OQ.keepT {m : Nat} {S : Nat → Prop} {w w' : World} {c : Array Value} {y : TxO} (h : OQ m w c y) (k : Keep S w w') (hS : Far m w S) : OQ m w' c y := by
  obtain ⟨sv, h1, h2⟩ := h
  exact ⟨sv, h1, h2.keepT k fun g hg => ⟨(hS g hg).1, (hS g hg).2.1⟩⟩
theorem InN.iq {m m' : Nat} {w : World} {c : Array Value} {x : TxI} (h : InN m w c x) (hm : m' ≤ m) : IQ m' w c x := by
  obtain ⟨sv, wv, h1, h2, h3⟩ := h
  exact ⟨sv, wv, h1, h2.sr, h3.base hm⟩
theorem OuN.oq {m m' : Nat} {w : World} {c : Array Value} {y : TxO} (h : OuN m w c y) : OQ m' w c y := by
  obtain ⟨sv, h1, h2⟩ := h
  exact ⟨sv, h1, h2.sr⟩
structure LS (w wj : World) (p4 : Nat) (t : TxV) (vi vo : Value) (li : List TxI) (lo : List TxO) : Prop where
  ext : Ext w wj
  c4 : wj.heap[p4]? = some (.cells (txC t vi vo) 26 (0, 0))
  ins : ListN IQ 50 36 w.heap.size wj vi li
  outs : ListN OQ 54 2 w.heap.size wj vo lo
  l4 : w.heap.size ≤ p4
section
variable {w wj w' : World} {p4 : Nat} {t : TxV} {vi vo : Value} {li : List TxI} {lo : List TxO}
theorem LS.keep (h : LS w wj p4 t vi vo li lo) (k : Ext wj w') : LS w w' p4 t vi vo li lo :=
  ⟨h.ext.ext k, k.at h.c4 (fun h => h), ListN.keepT h.ins k (fun _ h => h.elim) fun _ _ h => IQ.keepT h k (Far.none _ _), ListN.keepT h.outs k (fun _ h => h.elim) fun _ _ h => OQ.keepT h k (Far.none _ _), h.l4⟩
/-- The lists themselves. -/
theorem LS.put1 (h : LS w wj p4 t vi vo li lo) {v' : Value} {l' : List TxI} (hv : ListN IQ 50 36 w.heap.size wj v' l') : wr1 wj p4 1 ∧ LS w (wj.setCell ⟨p4, 1, none⟩ v') p4 t v' vo l' lo := by
  have hk : Keep (fun g => g = p4) wj (wj.setCell ⟨p4, 1, none⟩ v') := (Keep.refl _ wj).setCell _ fun _ => rfl
  have hF := Far.one h.c4 (by decide) (by decide) h.l4
  have n50 := ne_T (T' := 50) h.c4 (by decide)
  have n54 := ne_T (T' := 54) h.c4 (by decide)
  have l4 := h.l4
  exact ⟨wr1_of h.c4 (by rw [txC_sz]; decide), h.ext.trans hk fun g hg e => by omega, by rw [heap_setCell_eq h.c4]; rfl,
    ListN.keepT hv hk (fun g hg c => by subst hg; exact n50 c) fun _ _ hR => IQ.keepT hR hk hF, ListN.keepT h.outs hk (fun g hg c => by subst hg; exact n54 c) fun _ _ hR => OQ.keepT hR hk hF, h.l4⟩
theorem LS.put2 (h : LS w wj p4 t vi vo li lo) {v' : Value} {l' : List TxO} (hv : ListN OQ 54 2 w.heap.size wj v' l') : wr1 wj p4 2 ∧ LS w (wj.setCell ⟨p4, 2, none⟩ v') p4 t vi v' li l' := by
  have hk : Keep (fun g => g = p4) wj (wj.setCell ⟨p4, 2, none⟩ v') := (Keep.refl _ wj).setCell _ fun _ => rfl
  have hF := Far.one h.c4 (by decide) (by decide) h.l4
  have n50 := ne_T (T' := 50) h.c4 (by decide)
  have n54 := ne_T (T' := 54) h.c4 (by decide)
  have l4 := h.l4
  exact ⟨wr1_of h.c4 (by rw [txC_sz]; decide), h.ext.trans hk fun g hg e => by omega, by rw [heap_setCell_eq h.c4]; rfl,
    ListN.keepT h.ins hk (fun g hg c => by subst hg; exact n50 c) fun _ _ hR => IQ.keepT hR hk hF, ListN.keepT hv hk (fun g hg c => by subst hg; exact n54 c) fun _ _ hR => OQ.keepT hR hk hF, h.l4⟩
/-- A cell of an input. -/
theorem LS.setI (h : LS w wj p4 t vi vo li lo) {g o n cap i j : Nat} (he : vi = .slice (some ⟨g, o, none⟩) n cap) (hi : i < li.length) (hj : j < 36) (val : Value) (x' : TxI)
    (hnew : ∀ w' c, Keep (fun y => y = g) wj w' → Far w.heap.size wj (fun y => y = g) → IQ w.heap.size wj c li[i] → IQ w.heap.size w' (c.setIfInBounds j val) x') :
    wr1 wj g (o + i * 36 + j) ∧ LS w (wj.setCell ⟨g, o + i * 36 + j, none⟩ val) p4 t vi vo (li.set i x') lo := by
  have hk : Keep (fun y => y = g) wj (wj.setCell ⟨g, o + i * 36 + j, none⟩ val) := (Keep.refl _ wj).setCell _ fun _ => rfl
  obtain ⟨hm, cur, hg⟩ := ListN.blkT h.ins (g := g) (by rw [he]; rfl)
  have hF := Far.one hg (by decide) (by decide) hm
  have n26 := ne_T (T' := 26) hg (by decide)
  have n54 := ne_T (T' := 54) hg (by decide)
  obtain ⟨hw, hL⟩ := ListN.setc h.ins he hi hj val x' (fun c hc => hnew _ c hk hF hc) fun c x hR => IQ.keepT hR hk hF
  exact ⟨hw, h.ext.trans hk fun y hy e => by omega, hk.at h.c4 fun e => n26 _ (e ▸ h.c4), hL, ListN.keepT h.outs hk (fun g' hg' c => by subst hg'; exact n54 c) fun _ _ hR => OQ.keepT hR hk hF, h.l4⟩
/-- The script of an input: nothing, another's. The number: nought. -/
theorem LS.script (h : LS w wj p4 t vi vo li lo) {g o n cap i : Nat} (he : vi = .slice (some ⟨g, o, none⟩) n cap) (hi : i < li.length) (hl : li[i].prev.length = 32) {val : Value} {bs : List Int} (hv : SR w.heap.size wj val bs) :
    wr1 wj g (o + i * 36 + 33) ∧ LS w (wj.setCell ⟨g, o + i * 36 + 33, none⟩ val) p4 t vi vo (li.set i { li[i] with script := bs }) lo :=
  h.setI he hi (by decide) val _ fun w' c hk hF hI => by
    obtain ⟨sv, wv, rfl, h2, h3⟩ := hI
    refine ⟨val, wv, ?_, hv.keepT hk fun g hg => ⟨(hF g hg).1, (hF g hg).2.1⟩, h3.keepT hk fun g hg c => ⟨(hF g hg).2.1 c, (hF g hg).2.2 c⟩⟩
    rw [iC_set33 hl]; rfl
theorem LS.seq (h : LS w wj p4 t vi vo li lo) {g o n cap i : Nat} (he : vi = .slice (some ⟨g, o, none⟩) n cap) (hi : i < li.length) (hl : li[i].prev.length = 32) (q : Int) :
    wr1 wj g (o + i * 36 + 34) ∧ LS w (wj.setCell ⟨g, o + i * 36 + 34, none⟩ (.int .u32 q)) p4 t vi vo (li.set i { li[i] with seq := q }) lo :=
  h.setI he hi (by decide) _ _ fun w' c hk hF hI => by
    obtain ⟨sv, wv, rfl, h2, h3⟩ := hI
    refine ⟨sv, wv, ?_, h2.keepT hk fun g hg => ⟨(hF g hg).1, (hF g hg).2.1⟩, h3.keepT hk fun g hg c => ⟨(hF g hg).2.1 c, (hF g hg).2.2 c⟩⟩
    rw [iC_set34 hl]
end
end Go.Proofs
namespace Go.Proofs
open Go.Vc
set_option maxRecDepth 10000

set_option maxHeartbeats 3200000 in
theorem leg_ins (Q : Ending → World → Prop) (w : World) (p4 p8 : Nat) (t : TxV) (hok : t.Ok) (hln : t.ins.length ≤ 100000) (vi vo : Value) (lo : List TxO) (i : Nat) (hi : i < t.ins.length) (x : Value) (bs : List Int) (hx : Rd w x bs) (kind o : Int) (al : Bool) (c8 : Array Value)
    (hdone : ∀ wj tl, LS w wj p4 t vi vo (t.ins.mapIdx (legIn i bs o)) lo → wj.heap[p8]? = some (.cells c8 36 (0, 0)) →
      W Try.prog Q 12 22 ((1, .int .i64 (i : Nat)) :: (2, x) :: (3, .int .u8 kind) :: (4, .pointer (some ⟨p4, 0, none⟩)) :: (8, .pointer (some ⟨p8, 0, none⟩)) :: (9, .int .u8 o) :: (10, .bool al) :: tl) wj) :
    ∀ (k j : Nat) (wj : World) (li : List TxI) (tl : Env), k + j = t.ins.length → li.length = t.ins.length → (∀ a (h : a < li.length) (h' : a < t.ins.length), li[a] = if a < j then legIn i bs o a t.ins[a] else t.ins[a]) → LS w wj p4 t vi vo li lo → wj.heap[p8]? = some (.cells c8 36 (0, 0)) →
      W Try.prog Q 12 35 ((1, .int .i64 (i : Nat)) :: (2, x) :: (3, .int .u8 kind) :: (4, .pointer (some ⟨p4, 0, none⟩)) :: (8, .pointer (some ⟨p8, 0, none⟩)) :: (9, .int .u8 o) :: (10, .bool al) :: (45, .int .i64 (t.ins.length : Nat)) :: (46, .int .i64 (j : Nat)) :: tl) wj := by
  intro k
  induction k with
  | zero =>
    intro j wj li tl hj hll hli hP h8
    have hil : ¬ ((j : Int) < (t.ins.length : Nat)) := by omega
    have e : li = t.ins.mapIdx (legIn i bs o) := by
      refine List.ext_getElem (by simp [hll]) fun a b c => ?_
      rw [hli a b (by omega), if_pos (by omega), List.getElem_mapIdx]
    rw [e] at hP
    (refine W_at c12_ok ?_; refine ⟨_, rfl, ?_⟩; simp (disch := first | omega | assumption | rfl | (simp only [vcS] <;> omega) | fail) only [↓vcA, vcB, ↓reduceIte, Nat.reduceEqDiff, Option.bind_some, hil])
    (refine W_at c12_ok ?_; refine ⟨_, rfl, ?_⟩; simp (disch := first | omega | assumption | rfl | (simp only [vcS] <;> omega) | fail) only [↓vcA, vcB, ↓reduceIte, Nat.reduceEqDiff])
    exact hdone wj _ hP h8
  | succ k ih =>
    intro j wj li tl hj hll hli hP h8
    have hj0 : j < li.length := by omega
    have hil : ((j : Int) < (t.ins.length : Nat)) := by omega
    have c3 : 0 ≤ (j : Int) ∧ (j : Int) < (li.length : Nat) := by omega
    have wi : IntKind.i64.wrap ((j : Int) + 1) = ((j + 1 : Nat) : Int) := wrap_i64 (by omega) (by omega)
    have hlj := hli j hj0 (by omega)
    rw [if_neg (by omega)] at hlj
    have hpl : li[j].prev.length = 32 := by rw [hlj]; exact (hok.ins _ (List.getElem_mem _)).len
    have d4 := hP.c4
    obtain ⟨g, oo, cap, c, hvi, hrd, _, hm, cur, hg⟩ := ListN.at hP.ins hj0
    have n36 := ne_T (T' := 36) hg (by decide)
    have hp8 : p8 ≠ g := fun e => n36 _ (e ▸ h8)
    (refine W_at c12_ok ?_; refine ⟨_, rfl, ?_⟩; simp (disch := first | omega | assumption | rfl | (simp only [vcS] <;> omega) | fail) only [↓vcA, vcB, ↓reduceIte, Nat.reduceEqDiff, Option.bind_some, hil])
    (refine W_at c12_ok ?_; refine ⟨_, rfl, ?_⟩; simp (disch := first | omega | assumption | rfl | (simp only [vcS] <;> omega) | fail) only [↓vcA, vcB, ↓reduceIte, Nat.reduceEqDiff])
    (refine W_at c12_ok ?_; refine ⟨_, rfl, ?_⟩; simp (disch := first | omega | assumption | rfl | (simp only [vcS] <;> omega) | fail) only [↓vcA, vcB, ↓reduceIte, Nat.reduceEqDiff])
    (refine W_at c12_ok ?_; refine ⟨_, rfl, ?_⟩; simp (disch := first | omega | assumption | rfl | (simp only [vcS] <;> omega) | fail) only [↓vcA, vcB, ↓reduceIte, Nat.reduceEqDiff, Option.bind_some, vcM, d4, txC_1, hvi, c3, Int.toNat_natCast])
    obtain ⟨hw1, hP1⟩ := hP.script hvi hj0 hpl (SR.nil w.heap.size wj)
    have h81 : (wj.setCell ⟨g, oo + j * 36 + 33, none⟩ (.slice none 0 0)).heap[p8]? = some (.cells c8 36 (0, 0)) := ((Keep.refl (fun y => y = g) wj).setCell _ fun _ => rfl).at h8 hp8
    (refine W_at c12_ok ?_; refine ⟨_, rfl, ?_⟩; simp (disch := first | omega | assumption | rfl | (simp only [vcS] <;> omega) | fail) only [↓ptV_l, ↓vcA, vcB, ↓reduceIte, Nat.reduceEqDiff, Option.bind_some])
    refine ⟨hw1, ?_⟩
    generalize World.setCell _ _ _ = w1 at hP1 h81 ⊢
    rw [hlj] at hP1
    generalize hl1 : li.set j { t.ins[j]'(by omega) with script := [] } = l1 at hP1
    have hl1l : l1.length = li.length := by rw [← hl1, List.length_set]
    have hl1j : l1[j]'(by omega) = { t.ins[j]'(by omega) with script := [] } := by
      subst hl1
      rw [List.getElem_set_self]
    have hl1a : ∀ a (h : a < l1.length) (h' : a < t.ins.length), a ≠ j → l1[a] = if a < j then legIn i bs o a t.ins[a] else t.ins[a] := fun a h h' ha => by
      subst hl1
      rw [List.getElem_set_ne (by omega)]
      exact hli a (by omega) h'
    -- the next round
    have next : ∀ w2 l2 tl, l2.length = t.ins.length → (∀ (h : j < l2.length), l2[j] = legIn i bs o j (t.ins[j]'(by omega))) → (∀ a (h : a < l2.length) (h' : a < l1.length), a ≠ j → l2[a] = l1[a]) → LS w w2 p4 t vi vo l2 lo → w2.heap[p8]? = some (.cells c8 36 (0, 0)) →
        W Try.prog Q 12 23 ((1, .int .i64 (i : Nat)) :: (2, x) :: (3, .int .u8 kind) :: (4, .pointer (some ⟨p4, 0, none⟩)) :: (8, .pointer (some ⟨p8, 0, none⟩)) :: (9, .int .u8 o) :: (10, .bool al) :: (45, .int .i64 (t.ins.length : Nat)) :: (46, .int .i64 ((j + 1 : Nat) : Int)) :: tl) w2 := by
      intro w2 l2 tl hl2 hj2 ha2 hP2 h82
      (refine W_at c12_ok ?_; refine ⟨_, rfl, ?_⟩; simp (disch := first | omega | assumption | rfl | (simp only [vcS] <;> omega) | fail) only [vcB])
      refine ih (j + 1) w2 l2 _ (by omega) hl2 (fun a h h' => ?_) hP2 h82
      by_cases haj : a = j
      · subst haj
        rw [if_pos (by omega)]; exact hj2 h
      · rw [ha2 a h (by omega) haj, hl1a a (by omega) h' haj]
        by_cases hlt : a < j
        · rw [if_pos hlt, if_pos (by omega)]
        · rw [if_neg hlt, if_neg (by omega)]
    have hpl1 : (l1[j]'(by omega)).prev.length = 32 := by rw [hl1j]; exact (hok.ins _ (List.getElem_mem _)).len
    obtain ⟨g2, oo2, cap2, c2, hvi2, _, _, hm2, cur2, hg2⟩ := ListN.at hP1.ins (i := j) (by omega)
    have hgo : g2 = g ∧ oo2 = oo := by
      rw [hvi] at hvi2
      injection hvi2 with e1
      injection e1 with e1
      injection e1 with e1 e2
      exact ⟨e1.symm, e2.symm⟩
    obtain ⟨rfl, rfl⟩ := hgo
    by_cases hji : j = i
    · subst hji
      have hSx : SR w.heap.size w1 x bs := Rd.sr hx hP1.ext
      obtain ⟨hw2, hP2⟩ := hP1.script hvi (by omega) hpl1 hSx
      have h82 : (w1.setCell ⟨g2, oo2 + j * 36 + 33, none⟩ x).heap[p8]? = some (.cells c8 36 (0, 0)) := ((Keep.refl (fun y => y = g2) w1).setCell _ fun _ => rfl).at h81 hp8
      (refine W_at c12_ok ?_; refine ⟨_, rfl, ?_⟩; simp (disch := first | omega | assumption | rfl | (simp only [vcS] <;> omega) | fail) only [↓vcA, vcB, ↓reduceIte, Nat.reduceEqDiff, Option.bind_some])
      (refine W_at c12_ok ?_; refine ⟨_, rfl, ?_⟩; simp (disch := first | omega | assumption | rfl | (simp only [vcS] <;> omega) | fail) only [↓vcA, vcB, ↓reduceIte, Nat.reduceEqDiff])
      have hx1 := hx.one
      (refine W_at c12_ok ?_; refine ⟨_, rfl, ?_⟩; simp (disch := first | omega | assumption | rfl | (simp only [vcS] <;> omega) | fail) only [↓ptV_l, ↓vcA, vcB, ↓reduceIte, Nat.reduceEqDiff, Option.bind_some, hx1])
      refine ⟨hw2, ?_⟩
      (refine W_at c12_ok ?_; refine ⟨_, rfl, ?_⟩; simp (disch := first | omega | assumption | rfl | (simp only [vcS] <;> omega) | fail) only [↓vcA, vcB, ↓reduceIte, Nat.reduceEqDiff, Option.bind_some, wi])
      refine next _ _ _ (by rw [List.length_set]; omega) (fun h => ?_) (fun a h h' ha => ?_) hP2 h82
      · rw [List.getElem_set_self, hl1j, legIn, if_pos rfl]
      · rw [List.getElem_set_ne (by omega)]
    · have hji' : ¬ ((j : Int) = (i : Int)) := by omega
      (refine W_at c12_ok ?_; refine ⟨_, rfl, ?_⟩; simp (disch := first | omega | assumption | rfl | (simp only [vcS] <;> omega) | fail) only [↓vcA, vcB, ↓reduceIte, Nat.reduceEqDiff, Option.bind_some, hji'])
      (refine W_at c12_ok ?_; refine ⟨_, rfl, ?_⟩; simp (disch := first | omega | assumption | rfl | (simp only [vcS] <;> omega) | fail) only [↓vcA, vcB, ↓reduceIte, Nat.reduceEqDiff])
      have seqs : (o = 2 ∨ o = 3) → ∀ tl, W Try.prog Q 12 26 ((1, .int .i64 (i : Nat)) :: (2, x) :: (3, .int .u8 kind) :: (4, .pointer (some ⟨p4, 0, none⟩)) :: (8, .pointer (some ⟨p8, 0, none⟩)) :: (9, .int .u8 o) :: (10, .bool al) :: (12, .pointer (some ⟨g2, oo2 + j * 36, none⟩)) :: (45, .int .i64 (t.ins.length : Nat)) :: (46, .int .i64 (j : Nat)) :: tl) w1 := by
        intro ho tl
        obtain ⟨hw2, hP2⟩ := hP1.seq hvi (i := j) (by omega) hpl1 0
        have h82 : (w1.setCell ⟨g2, oo2 + j * 36 + 34, none⟩ (.int .u32 0)).heap[p8]? = some (.cells c8 36 (0, 0)) := ((Keep.refl (fun y => y = g2) w1).setCell _ fun _ => rfl).at h81 hp8
        (refine W_at c12_ok ?_; refine ⟨_, rfl, ?_⟩; simp (disch := first | omega | assumption | rfl | (simp only [vcS] <;> omega) | fail) only [↓ptV_l, ↓vcA, vcB, ↓reduceIte, Nat.reduceEqDiff, Option.bind_some])
        refine ⟨hw2, ?_⟩
        (refine W_at c12_ok ?_; refine ⟨_, rfl, ?_⟩; simp (disch := first | omega | assumption | rfl | (simp only [vcS] <;> omega) | fail) only [↓vcA, vcB, ↓reduceIte, Nat.reduceEqDiff, Option.bind_some, wi])
        refine next _ _ _ (by rw [List.length_set]; omega) (fun h => ?_) (fun a h h' ha => ?_) hP2 h82
        · rw [List.getElem_set_self, hl1j, legIn, if_neg hji, if_pos ho]
        · rw [List.getElem_set_ne (by omega)]
      by_cases h2 : o = 2
      · have h2' : decide (o = 2) = true := decide_eq_true h2
        (refine W_at c12_ok ?_; refine ⟨_, rfl, ?_⟩; simp (disch := first | omega | assumption | rfl | (simp only [vcS] <;> omega) | fail) only [↓vcA, vcB, ↓reduceIte, Nat.reduceEqDiff, Option.bind_some, h2'])
        (refine W_at c12_ok ?_; refine ⟨_, rfl, ?_⟩; simp (disch := first | omega | assumption | rfl | (simp only [vcS] <;> omega) | fail) only [↓vcA, vcB, ↓reduceIte, Nat.reduceEqDiff])
        exact seqs (.inl h2) _
      · have h2' : decide (o = 2) = false := decide_eq_false h2
        by_cases h3 : o = 3
        · have h3' : decide (o = 3) = true := decide_eq_true h3
          (refine W_at c12_ok ?_; refine ⟨_, rfl, ?_⟩; simp (disch := first | omega | assumption | rfl | (simp only [vcS] <;> omega) | fail) only [↓vcA, vcB, ↓reduceIte, Nat.reduceEqDiff, Option.bind_some, h2', h3'])
          (refine W_at c12_ok ?_; refine ⟨_, rfl, ?_⟩; simp (disch := first | omega | assumption | rfl | (simp only [vcS] <;> omega) | fail) only [↓vcA, vcB, ↓reduceIte, Nat.reduceEqDiff])
          exact seqs (.inr h3) _
        · have h3' : decide (o = 3) = false := decide_eq_false h3
          (refine W_at c12_ok ?_; refine ⟨_, rfl, ?_⟩; simp (disch := first | omega | assumption | rfl | (simp only [vcS] <;> omega) | fail) only [↓vcA, vcB, ↓reduceIte, Nat.reduceEqDiff, Option.bind_some, h2', h3'])
          (refine W_at c12_ok ?_; refine ⟨_, rfl, ?_⟩; simp (disch := first | omega | assumption | rfl | (simp only [vcS] <;> omega) | fail) only [↓vcA, vcB, ↓reduceIte, Nat.reduceEqDiff])
          (refine W_at c12_ok ?_; refine ⟨_, rfl, ?_⟩; simp (disch := first | omega | assumption | rfl | (simp only [vcS] <;> omega) | fail) only [↓vcA, vcB, ↓reduceIte, Nat.reduceEqDiff, Option.bind_some, wi])
          refine next w1 l1 _ (by omega) (fun h => ?_) (fun a h h' ha => rfl) hP1 h81
          have ho : ¬ (o = 2 ∨ o = 3) := by omega
          rw [hl1j, legIn, if_neg hji, if_neg ho]
end Go.Proofs
namespace Go.Proofs
open Go.Vc
set_option maxRecDepth 10000

theorem sizeF_byt' {n : Int} (h : 0 ≤ n) : byt (sizeF n) := by
  unfold sizeF
  have c : ∀ (f : Int) (k : Nat), 0 ≤ f ∧ f ≤ 255 → byt (f :: lowF k n) := fun f k hf x hx => by
    rcases List.mem_cons.1 hx with rfl | hx
    · exact hf
    · exact lowF_byt k n x hx
  split
  · intro x hx; simp at hx; omega
  · split
    · exact c _ _ (by omega)
    · split
      · exact c _ _ (by omega)
      · exact c _ _ (by omega)
theorem flat_byt {α : Type} {f : α → List Int} {l : List α} (h : ∀ x ∈ l, byt (f x)) : byt (l.flatMap f) := fun b hb => by
  obtain ⟨x, hx, hb⟩ := List.mem_flatMap.1 hb
  exact h x hx b hb
theorem encF_byt {t : TxV} (h : t.Ok) : byt (encF t) := by
  unfold encF
  refine byt_app (byt_app (byt_app (byt_app (byt_app (lowF_byt _ _) (sizeF_byt' (by omega))) (flat_byt fun x hx => ?_)) (sizeF_byt' (by omega))) (flat_byt fun y hy => ?_)) (lowF_byt _ _)
  · have hx := h.ins x hx
    exact byt_app (byt_app (byt_app hx.prev (lowF_byt _ _)) (byt_app (sizeF_byt' (by omega)) hx.script)) (lowF_byt _ _)
  · exact byt_app (lowF_byt _ _) (byt_app (sizeF_byt' (by omega)) (h.outs y hy).script)
theorem LS.txR {w wj : World} {p4 : Nat} {t : TxV} {vi vo : Value} {li : List TxI} {lo : List TxO} (h : LS w wj p4 t vi vo li lo) : TxR wj vi vo { t with ins := li, outs := lo } := by
  obtain ⟨cs, a1, a2, a3⟩ := h.ins
  obtain ⟨ds, b1, b2, b3⟩ := h.outs
  obtain ⟨q, c, f1, f2⟩ := a2.is
  obtain ⟨q', c', g1, g2⟩ := b2.is
  have a4 := a2.mx
  have b4 := b2.mx
  refine ⟨⟨cs, a1, a2.sz, a2.rd, ⟨q, c, by rw [f1, a1], ?_⟩, ?_, fun i x y => ?_⟩, ⟨ds, b1, b2.sz, b2.rd, ⟨q', c', by rw [g1, b1], ?_⟩, ?_, fun i x y => ?_⟩⟩
  · show li.length ≤ c; omega
  · show li.length ≤ maxLen; omega
  · obtain ⟨sv, wv, e, h1, h2⟩ := a3 i x y
    exact ⟨sv, wv, e, h1.1, h2.rd⟩
  · show lo.length ≤ c'; omega
  · show lo.length ≤ maxLen; omega
  · obtain ⟨sv, e, h1⟩ := b3 i x y
    exact ⟨sv, e, h1.1⟩
set_option maxHeartbeats 1600000 in
theorem leg_end (w : World) (p4 p8 p14 : Nat) (t : TxV) (vi vo : Value) (li : List TxI) (lo : List TxO) (kind : Int) (hk : 0 ≤ kind ∧ kind ≤ 255) (c8 : Array Value) (hc8 : c8.size = 32) (hok : ({ t with ins := li, outs := lo } : TxV).Ok) (hf : ({ t with ins := li, outs := lo } : TxV).Few 100 1000) (hlen : (encF { t with ins := li, outs := lo }).length ≤ 90000000)
    (wj : World) (tl : Env) (hP : LS w wj p4 t vi vo li lo) (h8 : wj.heap[p8]? = some (.cells c8 36 (0, 0))) (l8 : w.heap.size ≤ p8) (hW : WMid w wj p14 (.slice none 0 0) []) :
    W Try.prog (Ret fun u w' => u = .agg (bv (dblF (encF { t with ins := li, outs := lo } ++ lowF 4 kind))).toArray ∧ Ext w w') 12 4 ((3, .int .u8 kind) :: (4, .pointer (some ⟨p4, 0, none⟩)) :: (8, .pointer (some ⟨p8, 0, none⟩)) :: (14, .pointer (some ⟨p14, 0, none⟩)) :: tl) wj := by
  have d4 := hP.c4
  have r4 : rdO (some (.cells (txC t vi vo) 26 (0, 0))) 0 4 = some (txC t vi vo) := rdO_all _ _ _ _ rfl
  have hTx := hP.txR
  generalize hB : encF { t with ins := li, outs := lo } = B at hlen ⊢
  (refine W_at c12_ok ?_; refine ⟨_, rfl, ?_⟩; simp (disch := first | omega | assumption | rfl | (simp only [vcS] <;> omega) | fail) only [↓ptV_l, ↓vcA, vcB, ↓reduceIte, Nat.reduceEqDiff, Option.bind_some, Option.map_some, vcM, d4, r4])
  refine callV_ret (encode_ok wj vi vo { t with ins := li, outs := lo } hTx hok hf) ?_
  rintro u w1 hu
  rw [hB] at hu
  first | (simp (disch := first | omega | assumption | rfl | (simp only [vcS] <;> omega) | fail) only [↓ptV_l, ↓vcA, vcB, ↓vcD, vcE, ↓reduceIte, Nat.reduceEqDiff, Nat.reduceAdd, Nat.reduceMul, Nat.reduceLeDiff, Int.reduceLE, Int.reduceLT, Int.reduceEq, Int.reduceToNat, Int.reduceAdd, Int.reduceSub, Int.reduceMul, Int.reduceNeg, reduceCtorEq, Option.bind_some, Option.map_some, List.length_cons, List.length_nil, vcM, List.getElem?_toArray, List.getElem?_cons_zero, List.getElem?_cons_succ]) | skip
  have hW1 := hW.grow hu.ext
  have h81 := hu.ext.at h8 (fun h => h)
  refine callV_ret (raw_ok w1 p14 _ [] u B hW1.at' hu.own.rd (by simp; omega)) ?_
  rintro _ w2 hw2
  first | (simp (disch := first | omega | assumption | rfl | (simp only [vcS] <;> omega) | fail) only [↓ptV_l, ↓vcA, vcB, ↓vcD, vcE, ↓reduceIte, Nat.reduceEqDiff, Nat.reduceAdd, Nat.reduceMul, Nat.reduceLeDiff, Int.reduceLE, Int.reduceLT, Int.reduceEq, Int.reduceToNat, Int.reduceAdd, Int.reduceSub, Int.reduceMul, Int.reduceNeg, reduceCtorEq, Option.bind_some, Option.map_some, List.length_cons, List.length_nil, vcM, List.getElem?_toArray, List.getElem?_cons_zero, List.getElem?_cons_succ]) | skip
  obtain ⟨v2, hW2⟩ := hW1.go hw2
  have h82 := hw2.at hW1.at' h81 (by decide) (by decide)
  rw [List.nil_append] at hW2
  have wk : IntKind.u32.wrap kind = kind := by rw [wrap_u32]; omega
  (refine W_at c12_ok ?_; refine ⟨_, rfl, ?_⟩; simp (disch := first | omega | assumption | rfl | (simp only [vcS] <;> omega) | fail) only [↓ptV_l, ↓vcA, vcB, ↓reduceIte, Nat.reduceEqDiff, Option.bind_some, Option.map_some, wk])
  refine callV_ret (u32_ok w2 p14 v2 B kind hW2.at' (by omega) (by omega)) ?_
  rintro _ w3 hw3
  first | (simp (disch := first | omega | assumption | rfl | (simp only [vcS] <;> omega) | fail) only [↓ptV_l, ↓vcA, vcB, ↓vcD, vcE, ↓reduceIte, Nat.reduceEqDiff, Nat.reduceAdd, Nat.reduceMul, Nat.reduceLeDiff, Int.reduceLE, Int.reduceLT, Int.reduceEq, Int.reduceToNat, Int.reduceAdd, Int.reduceSub, Int.reduceMul, Int.reduceNeg, reduceCtorEq, Option.bind_some, Option.map_some, List.length_cons, List.length_nil, vcM, List.getElem?_toArray, List.getElem?_cons_zero, List.getElem?_cons_succ]) | skip
  obtain ⟨v3, hW3⟩ := hW2.go hw3
  have h83 := hw3.at hW2.at' h82 (by decide) (by decide)
  have hl4 := lowF_len 4 kind
  (refine W_at c12_ok ?_; refine ⟨_, rfl, ?_⟩; simp (disch := first | omega | assumption | rfl | (simp only [vcS] <;> omega) | fail) only [↓ptV_l, ↓vcA, vcB, ↓reduceIte, Nat.reduceEqDiff, Option.bind_some, Option.map_some])
  refine callV_ret (out_ok w3 p14 v3 _ hW3.at' (by rw [List.length_append]; omega)) ?_
  rintro u4 w4 ⟨o4, e4, n4⟩
  first | (simp (disch := first | omega | assumption | rfl | (simp only [vcS] <;> omega) | fail) only [↓ptV_l, ↓vcA, vcB, ↓vcD, vcE, ↓reduceIte, Nat.reduceEqDiff, Nat.reduceAdd, Nat.reduceMul, Nat.reduceLeDiff, Int.reduceLE, Int.reduceLT, Int.reduceEq, Int.reduceToNat, Int.reduceAdd, Int.reduceSub, Int.reduceMul, Int.reduceNeg, reduceCtorEq, Option.bind_some, Option.map_some, List.length_cons, List.length_nil, vcM, List.getElem?_toArray, List.getElem?_cons_zero, List.getElem?_cons_succ]) | skip
  have hBb : byt B := by rw [← hB]; exact encF_byt hok
  refine callV_ret (double_ok w4 u4 _ o4.rd (byt_app hBb (lowF_byt _ _)) (by rw [List.length_append]; omega)) ?_
  rintro _ w5 ⟨rfl, e5⟩
  have h85 := e5.at (e4.at h83 (fun h => h)) (fun h => h)
  have s32 : (bv (dblF (B ++ lowF 4 kind))).toArray.size = 32 := by rw [bva_size, dblF_len]
  have o32 : okO (some (.cells c8 36 (0, 0))) 0 32 = True := by simp only [okO, hc8]; simp
  first | (simp (disch := first | omega | assumption | rfl | (simp only [vcS] <;> omega) | fail) only [↓vcA, vcB, vcM, h85, s32, o32]) | skip
  refine ⟨bv_flat _, ?_⟩
  have hk8 : Keep (fun g => g = p8) w5 (w5.putN p8 0 (bv (dblF (B ++ lowF 4 kind))).toArray) := (Keep.refl _ w5).putN _ fun _ => rfl
  have d9 : (w5.putN p8 0 (bv (dblF (B ++ lowF 4 kind))).toArray).heap[p8]? = some (.cells (bv (dblF (B ++ lowF 4 kind))).toArray 36 (0, 0)) := by
    rw [heap_putN_eq h85, splice_all (by rw [hc8, s32])]
  have hr32 : rdO (some (.cells (bv (dblF (B ++ lowF 4 kind))).toArray 36 (0, 0))) 0 32 = some (bv (dblF (B ++ lowF 4 kind))).toArray := rdO_all _ _ _ _ s32
  (refine W_at c12_ok ?_; refine ⟨_, rfl, ?_⟩; simp (disch := first | omega | assumption | rfl | (simp only [vcS] <;> omega) | fail) only [↓vcA, vcB, ↓reduceIte, Option.bind_some, Option.map_some, vcM, d9, hr32, Ret_returned])
  exact ((hW3.ext.ext e4).ext e5).trans hk8 fun g hg e => by omega
end Go.Proofs
namespace Go.Proofs
open Go.Vc
set_option maxRecDepth 10000

theorem ListN.drop {α : Type} {R : Nat → World → Array Value → α → Prop} {T size m n c : Nat} {w : World} {q : Option Addr} {l : List α} (h : ListN R T size m w (.slice q n c) l) {k : Nat} (hk : k ≤ l.length) : ListN R T size m w (.slice (advA size q c k) (n - k) (c - k)) (l.drop k) := by
  obtain ⟨cs, h1, h2, h3⟩ := h
  obtain ⟨q', c', e, hc, h4⟩ := h2.drop (l := k) (by omega)
  injection e with e1 e2 e3
  subst e1 e3
  rw [← e2] at h4
  refine ⟨cs.drop k, by simp [h1], h4, fun i a b => ?_⟩
  rw [List.length_drop] at a b
  rw [List.getElem_drop, List.getElem_drop]
  exact h3 (k + i) (by omega) (by omega)
set_option maxHeartbeats 1600000 in
theorem leg_alone (w : World) (p4 p8 : Nat) (t : TxV) (vi vo : Value) (li : List TxI) (lo : List TxO) (i : Nat) (hi : i < li.length) (hin : li.length ≤ 100000) (kind : Int) (hk : 0 ≤ kind ∧ kind ≤ 255) (al : Bool) (c8 : Array Value) (hc8 : c8.size = 32)
    (hok : ∀ l, (l = li ∨ l = (li.drop i).take 1) → ({ t with ins := l, outs := lo } : TxV).Ok ∧ ({ t with ins := l, outs := lo } : TxV).Few 100 1000 ∧ (encF { t with ins := l, outs := lo }).length ≤ 90000000)
    (wj : World) (tl : Env) (hP : LS w wj p4 t vi vo li lo) (h8 : wj.heap[p8]? = some (.cells c8 36 (0, 0))) (l8 : w.heap.size ≤ p8) :
    W Try.prog (Ret fun u w' => u = .agg (bv (dblF (encF { t with ins := if al then (li.drop i).take 1 else li, outs := lo } ++ lowF 4 kind))).toArray ∧ Ext w w') 12 8 ((1, .int .i64 (i : Nat)) :: (3, .int .u8 kind) :: (4, .pointer (some ⟨p4, 0, none⟩)) :: (8, .pointer (some ⟨p8, 0, none⟩)) :: (10, .bool al) :: tl) wj := by
  have fin : ∀ wj vi l tl, (l = li ∨ l = (li.drop i).take 1) → LS w wj p4 t vi vo l lo → wj.heap[p8]? = some (.cells c8 36 (0, 0)) → W Try.prog (Ret fun u w' => u = .agg (bv (dblF (encF { t with ins := l, outs := lo } ++ lowF 4 kind))).toArray ∧ Ext w w') 12 4 ((3, .int .u8 kind) :: (4, .pointer (some ⟨p4, 0, none⟩)) :: (8, .pointer (some ⟨p8, 0, none⟩)) :: (14, .pointer (some ⟨wj.heap.size, 0, none⟩)) :: tl) (wj.alloc (.cells (zc [(1, .slice none 0 0)]) 60)) := by
    intro wj vi l tl hl hP h8
    obtain ⟨a1, a2, a3⟩ := hok l hl
    have hE : Ext wj (wj.alloc (.cells (zc [(1, .slice none 0 0)]) 60)) := (Keep.refl _ wj).alloc _
    exact leg_end w p4 p8 wj.heap.size t vi vo l lo kind hk c8 hc8 a1 a2 a3 _ tl (hP.keep hE) (hE.at h8 (fun h => h)) l8 ⟨⟨heap_new _ _ _ rfl, Own1.nil _⟩, hP.ext.ext hE, hP.ext.size, fun g hg => by cases hg⟩
  cases al with
  | false =>
    (refine W_at c12_ok ?_; refine ⟨_, rfl, ?_⟩; simp (disch := first | omega | assumption | rfl | (simp only [vcS] <;> omega) | fail) only [↓vcA, vcB, ↓reduceIte, Nat.reduceEqDiff, reduceCtorEq])
    (refine W_at c12_ok ?_; refine ⟨_, rfl, ?_⟩; simp (disch := first | omega | assumption | rfl | (simp only [vcS] <;> omega) | fail) only [↓vcA, vcB, ↓reduceIte, Nat.reduceEqDiff])
    (refine W_at c12_ok ?_; refine ⟨_, rfl, ?_⟩; simp (disch := first | omega | assumption | rfl | (simp only [vcS] <;> omega) | fail) only [↓ptV_l, ↓vcA, vcB, ↓reduceIte, Nat.reduceEqDiff])
    exact fin wj vi li _ (.inl rfl) hP h8
  | true =>
    have d4 := hP.c4
    obtain ⟨q, c, rfl, hc⟩ := ListN.is hP.ins
    have wi : IntKind.i64.wrap ((i : Int) + 1) = ((i + 1 : Nat) : Int) := wrap_i64 (by omega) (by omega)
    have k1 : (0 : Int) ≤ (i : Nat) ∧ ((i : Nat) : Int) ≤ ((i + 1 : Nat) : Int) ∧ ((i + 1 : Nat) : Int) ≤ (c : Nat) := by omega
    have hL := ListN.drop (ListN.take hP.ins (k := i + 1) (by omega)) (k := i) (by rw [List.length_take]; omega)
    have he : (li.take (i + 1)).drop i = (li.drop i).take 1 := by rw [List.drop_take, Nat.add_sub_cancel_left]
    rw [he] at hL
    obtain ⟨hw, hP2⟩ := hP.put1 hL
    have h82 : (wj.setCell ⟨p4, 1, none⟩ (.slice (advA 36 q c i) (i + 1 - i) (c - i))).heap[p8]? = some (.cells c8 36 (0, 0)) := ((Keep.refl (fun y => y = p4) wj).setCell _ fun _ => rfl).at h8 fun e => by subst e; rw [d4] at h8; cases h8
    (refine W_at c12_ok ?_; refine ⟨_, rfl, ?_⟩; simp (disch := first | omega | assumption | rfl | (simp only [vcS] <;> omega) | fail) only [↓vcA, vcB, ↓reduceIte, Nat.reduceEqDiff])
    (refine W_at c12_ok ?_; refine ⟨_, rfl, ?_⟩; simp (disch := first | omega | assumption | rfl | (simp only [vcS] <;> omega) | fail) only [↓vcA, vcB, ↓reduceIte, Nat.reduceEqDiff])
    have k2 : (0 : Int) ≤ ((i + 1 : Nat) : Int) := by omega
    (refine W_at c12_ok ?_; refine ⟨_, rfl, ?_⟩; simp (disch := first | omega | assumption | rfl | (simp only [vcS] <;> omega) | fail) only [↓ptV_l, ↓vcA, vcB, ↓reduceIte, Nat.reduceEqDiff, Option.bind_some, Option.map_some, vcM, d4, txC_1, wi, k1, k2, Int.toNat_natCast])
    refine ⟨hw, ?_⟩
    generalize World.setCell _ _ _ = w9 at hP2 h82 ⊢
    (refine W_at c12_ok ?_; refine ⟨_, rfl, ?_⟩; simp (disch := first | omega | assumption | rfl | (simp only [vcS] <;> omega) | fail) only [↓ptV_l, ↓vcA, vcB, ↓reduceIte, Nat.reduceEqDiff])
    exact fin _ _ _ _ (.inr rfl) hP2 h82
end Go.Proofs
namespace Go.Proofs
open Go.Vc
set_option maxRecDepth 10000

theorem splice2 (a b : Value) : ∀ (k : Nat) (l : List Value), k + 2 ≤ l.length → l.take k ++ (a :: b :: l.drop (k + 2)) = (l.set k a).set (k + 1) b
  | 0, x :: y :: l, _ => rfl
  | k + 1, x :: l, h => by
    have ih := splice2 a b k l (by simpa using h)
    simp only [List.take_succ_cons, List.cons_append, List.set_cons_succ, List.drop_succ_cons]
    rw [← ih]
  | 0, [], h => by simp at h
  | 0, [_], h => by simp at h
  | _ + 1, [], h => by simp at h
theorem spliceA_2 (cur : Array Value) (k : Nat) (a b : Value) (h : k + 2 ≤ cur.size) : spliceA cur k #[a, b] = (cur.setIfInBounds k a).setIfInBounds (k + 1) b := by
  apply Array.ext'
  have := splice2 a b k cur.toList (by simpa using h)
  simp only [spliceA, Array.toList_setIfInBounds]
  rw [← this]
  simp
/-- Two cells at once, or one after the other. -/
theorem put2_ext {w : World} {g k : Nat} {cur : Array Value} {T : TypeId} (hg : w.heap[g]? = some (.cells cur T (0, 0))) (a b : Value) (hk : k + 2 ≤ cur.size) : Ext ((w.setCell ⟨g, k, none⟩ a).setCell ⟨g, k + 1, none⟩ b) (w.putN g k #[a, b]) := by
  have ka : Keep (fun y => y = g) w (w.setCell ⟨g, k, none⟩ a) := (Keep.refl _ w).setCell _ fun _ => rfl
  have k1 : Keep (fun y => y = g) w ((w.setCell ⟨g, k, none⟩ a).setCell ⟨g, k + 1, none⟩ b) := ka.setCell _ fun _ => rfl
  have k2 : Keep (fun y => y = g) w (w.putN g k #[a, b]) := (Keep.refl _ w).putN _ fun _ => rfl
  have h1 : (w.setCell ⟨g, k, none⟩ a).heap[g]? = some (.cells (cur.setIfInBounds k a) T (0, 0)) := heap_setCell_eq hg
  have h2 : ((w.setCell ⟨g, k, none⟩ a).setCell ⟨g, k + 1, none⟩ b).heap[g]? = some (.cells ((cur.setIfInBounds k a).setIfInBounds (k + 1) b) T (0, 0)) := heap_setCell_eq h1
  have h3 : (w.putN g k #[a, b]).heap[g]? = some (.cells (spliceA cur k #[a, b]) T (0, 0)) := heap_putN_eq hg
  have hs : ((w.setCell ⟨g, k, none⟩ a).setCell ⟨g, k + 1, none⟩ b).heap.size = w.heap.size := by simp
  refine ⟨k2.os.trans k1.os.symm, k2.tape.trans k1.tape.symm, k2.output.trans k1.output.symm, by rw [hs]; exact k2.size, fun y hy _ => ?_⟩
  rw [hs] at hy
  by_cases hyg : y = g
  · subst hyg
    rw [h3, h2, spliceA_2 _ _ _ _ hk]
  · rw [k2.block y hy hyg, k1.block y hy hyg]
section
variable {w wj : World} {p4 : Nat} {t : TxV} {vi vo : Value} {li : List TxI} {lo : List TxO}
theorem LS.setO1 (h : LS w wj p4 t vi vo li lo) {g o n cap i j : Nat} (he : vo = .slice (some ⟨g, o, none⟩) n cap) (hi : i < lo.length) (hj : j < 2) (val : Value) (x' : TxO)
    (hnew : ∀ w' c, Keep (fun y => y = g) wj w' → Far w.heap.size wj (fun y => y = g) → OQ w.heap.size wj c lo[i] → OQ w.heap.size w' (c.setIfInBounds j val) x') :
    wr1 wj g (o + i * 2 + j) ∧ LS w (wj.setCell ⟨g, o + i * 2 + j, none⟩ val) p4 t vi vo li (lo.set i x') := by
  have hk : Keep (fun y => y = g) wj (wj.setCell ⟨g, o + i * 2 + j, none⟩ val) := (Keep.refl _ wj).setCell _ fun _ => rfl
  obtain ⟨hm, cur, hg⟩ := ListN.blkT h.outs (g := g) (by rw [he]; rfl)
  have hF := Far.one hg (by decide) (by decide) hm
  have n26 := ne_T (T' := 26) hg (by decide)
  have n50 := ne_T (T' := 50) hg (by decide)
  obtain ⟨hw, hL⟩ := ListN.setc h.outs he hi hj val x' (fun c hc => hnew _ c hk hF hc) fun c x hR => OQ.keepT hR hk hF
  exact ⟨hw, h.ext.trans hk fun y hy e => by omega, hk.at h.c4 fun e => n26 _ (e ▸ h.c4), ListN.keepT h.ins hk (fun g' hg' c => by subst hg'; exact n50 c) fun _ _ hR => IQ.keepT hR hk hF, hL, h.l4⟩
/-- An output becomes the empty one. -/
theorem LS.blank (h : LS w wj p4 t vi vo li lo) {g o n cap i : Nat} (he : vo = .slice (some ⟨g, o, none⟩) n cap) (hi : i < lo.length) (hO : ∃ cur, wj.heap[g]? = some (.cells cur 54 (0, 0)) ∧ o + i * 2 + 2 ≤ cur.size) :
    LS w (wj.putN g (o + i * 2) #[.int .i64 (-1), .slice none 0 0]) p4 t vi vo li (lo.set i ⟨-1, []⟩) := by
  obtain ⟨cur, hg, hs⟩ := hO
  obtain ⟨_, h1⟩ := h.setO1 (j := 0) he hi (by decide) (.int .i64 (-1)) ⟨-1, lo[i].script⟩ fun w' c hk hF hQ => by
    obtain ⟨sv, rfl, h2⟩ := hQ
    exact ⟨sv, rfl, h2.keepT hk fun g hg => ⟨(hF g hg).1, (hF g hg).2.1⟩⟩
  have hil : i < (lo.set i (⟨-1, lo[i].script⟩ : TxO)).length := by rw [List.length_set]; exact hi
  obtain ⟨_, h2⟩ := h1.setO1 (j := 1) he hil (by decide) (.slice none 0 0) ⟨-1, []⟩ fun w' c hk hF hQ => by
    rw [List.getElem_set_self] at hQ
    obtain ⟨sv, rfl, h2⟩ := hQ
    exact ⟨.slice none 0 0, rfl, SR.nil _ _⟩
  rw [List.set_set] at h2
  exact h2.keep (put2_ext hg _ _ hs)
end
end Go.Proofs
namespace Go.Proofs
open Go.Vc
set_option maxRecDepth 10000

def blankTo (j : Nat) (l : List TxO) : List TxO := l.mapIdx fun a y => if a < j then ⟨-1, []⟩ else y
theorem blankTo_len (j : Nat) (l : List TxO) : (blankTo j l).length = l.length := by simp [blankTo]
theorem blankTo_0 (l : List TxO) : blankTo 0 l = l := by
  refine List.ext_getElem (by simp [blankTo]) fun a b c => ?_
  simp [blankTo]
theorem blankTo_succ (j : Nat) (l : List TxO) : (blankTo j l).set j ⟨-1, []⟩ = blankTo (j + 1) l := by
  refine List.ext_getElem (by simp [blankTo]) fun a b c => ?_
  by_cases h : j = a
  · subst h
    rw [List.getElem_set_self]
    simp [blankTo]
  · rw [List.getElem_set_ne h]
    simp only [blankTo, List.getElem_mapIdx]
    by_cases h2 : a < j
    · rw [if_pos h2, if_pos (by omega)]
    · rw [if_neg h2, if_neg (by omega)]
set_option maxHeartbeats 3200000 in
theorem leg_blank (Q : Ending → World → Prop) (w : World) (p4 p8 : Nat) (t : TxV) (vi vo : Value) (li : List TxI) (lo : List TxO) (i : Nat) (hi : i < lo.length) (hln : lo.length ≤ 100000) (kind : Int) (al : Bool) (c8 : Array Value)
    (hdone : ∀ wj tl, LS w wj p4 t vi vo li (blankTo i lo) → wj.heap[p8]? = some (.cells c8 36 (0, 0)) → W Try.prog Q 12 8 ((1, .int .i64 (i : Nat)) :: (3, .int .u8 kind) :: (4, .pointer (some ⟨p4, 0, none⟩)) :: (8, .pointer (some ⟨p8, 0, none⟩)) :: (10, .bool al) :: tl) wj) :
    ∀ (k j : Nat) (wj : World) (tl : Env), k + j = i → LS w wj p4 t vi vo li (blankTo j lo) → wj.heap[p8]? = some (.cells c8 36 (0, 0)) →
      W Try.prog Q 12 15 ((1, .int .i64 (i : Nat)) :: (3, .int .u8 kind) :: (4, .pointer (some ⟨p4, 0, none⟩)) :: (8, .pointer (some ⟨p8, 0, none⟩)) :: (10, .bool al) :: (85, .int .i64 (i : Nat)) :: (86, .int .i64 (j : Nat)) :: tl) wj := by
  intro k
  induction k with
  | zero =>
    intro j wj tl hj hP h8
    have hil : ¬ ((j : Int) < (i : Nat)) := by omega
    obtain rfl : j = i := by omega
    (refine W_at c12_ok ?_; refine ⟨_, rfl, ?_⟩; simp (disch := first | omega | assumption | rfl | (simp only [vcS] <;> omega) | fail) only [↓vcA, vcB, ↓reduceIte, Nat.reduceEqDiff, Option.bind_some, hil])
    (refine W_at c12_ok ?_; refine ⟨_, rfl, ?_⟩; simp (disch := first | omega | assumption | rfl | (simp only [vcS] <;> omega) | fail) only [↓vcA, vcB, ↓reduceIte, Nat.reduceEqDiff])
    exact hdone wj _ hP h8
  | succ k ih =>
    intro j wj tl hj hP h8
    have hil : ((j : Int) < (i : Nat)) := by omega
    have hl := blankTo_len j lo
    have c3 : 0 ≤ (j : Int) ∧ (j : Int) < ((blankTo j lo).length : Nat) := by omega
    have wi : IntKind.i64.wrap ((j : Int) + 1) = ((j + 1 : Nat) : Int) := wrap_i64 (by omega) (by omega)
    have d4 := hP.c4
    obtain ⟨g, o, cap, c, hvo, hrd, _, hm, cur, hg⟩ := ListN.at hP.outs (i := j) (by omega)
    have hsz : o + j * 2 + 2 ≤ cur.size := by
      rw [hg] at hrd
      simp only [rdO] at hrd
      split at hrd
      · assumption
      · cases hrd
    have hP2 := hP.blank hvo (i := j) (by omega) ⟨cur, hg, hsz⟩
    rw [blankTo_succ] at hP2
    have n36 := ne_T (T' := 36) hg (by decide)
    have h82 : (wj.putN g (o + j * 2) #[.int .i64 (-1), .slice none 0 0]).heap[p8]? = some (.cells c8 36 (0, 0)) := ((Keep.refl (fun y => y = g) wj).putN _ fun _ => rfl).at h8 fun e => n36 _ (e ▸ h8)
    have ho : okO (some (.cells cur 54 (0, 0))) (o + j * 2) 2 = True := by simp only [okO]; simp [hsz]
    have hz : #[Value.int .i64 (-1)] ++ zc [(1, .slice none 0 0)] = #[.int .i64 (-1), .slice none 0 0] := rfl
    have hf : flat #[Value.int .i64 (-1), .slice none 0 0] := by rw [flat_2]; exact ⟨rfl, rfl⟩
    have hs2 : (#[Value.int .i64 (-1), .slice none 0 0] : Array Value).size = 2 := rfl
    (refine W_at c12_ok ?_; refine ⟨_, rfl, ?_⟩; simp (disch := first | omega | assumption | rfl | (simp only [vcS] <;> omega) | fail) only [↓vcA, vcB, ↓reduceIte, Nat.reduceEqDiff, Option.bind_some, hil])
    (refine W_at c12_ok ?_; refine ⟨_, rfl, ?_⟩; simp (disch := first | omega | assumption | rfl | (simp only [vcS] <;> omega) | fail) only [↓vcA, vcB, ↓reduceIte, Nat.reduceEqDiff])
    (refine W_at c12_ok ?_; refine ⟨_, rfl, ?_⟩; simp (disch := first | omega | assumption | rfl | (simp only [vcS] <;> omega) | fail) only [↓vcA, vcB, ↓reduceIte, Nat.reduceEqDiff])
    (refine W_at c12_ok ?_; refine ⟨_, rfl, ?_⟩; simp (disch := first | omega | assumption | rfl | (simp only [vcS] <;> omega) | fail) only [↓ptV_l, ↓vcA, vcB, ↓reduceIte, Nat.reduceEqDiff, Int.reduceNeg, Option.bind_some, Option.map_some, vcM, d4, txC_2, hvo, c3, Int.toNat_natCast, hz, hg, ho, hf, hs2])
    (refine W_at c12_ok ?_; refine ⟨_, rfl, ?_⟩; simp (disch := first | omega | assumption | rfl | (simp only [vcS] <;> omega) | fail) only [↓vcA, vcB, ↓reduceIte, Nat.reduceEqDiff, Int.reduceNeg, Option.bind_some, wi])
    (refine W_at c12_ok ?_; refine ⟨_, rfl, ?_⟩; simp (disch := first | omega | assumption | rfl | (simp only [vcS] <;> omega) | fail) only [vcB, Int.reduceNeg])
    exact ih (j + 1) _ _ (by omega) hP2 h82
end Go.Proofs
namespace Go.Proofs
open Go.Vc
set_option maxRecDepth 10000

def outsL (t : TxV) (i : Nat) (o : Int) : List TxO := if o = 2 then [] else if o = 3 then blankTo i (t.outs.take (i + 1)) else t.outs
set_option maxHeartbeats 3200000 in
theorem leg_switch (w : World) (p4 p8 : Nat) (t : TxV) (vi vo : Value) (L : List TxI) (i : Nat) (hi : i < L.length) (hin : L.length ≤ 100000) (hon : t.outs.length ≤ 100000) (x : Value) (kind o : Int) (hk : 0 ≤ kind ∧ kind ≤ 255) (h3 : o = 3 → i < t.outs.length) (al : Bool) (c8 : Array Value) (hc8 : c8.size = 32)
    (hok : ∀ l, (l = L ∨ l = (L.drop i).take 1) → ({ t with ins := l, outs := outsL t i o } : TxV).Ok ∧ ({ t with ins := l, outs := outsL t i o } : TxV).Few 100 1000 ∧ (encF { t with ins := l, outs := outsL t i o }).length ≤ 90000000)
    (wj : World) (tl : Env) (hP : LS w wj p4 t vi vo L t.outs) (h8 : wj.heap[p8]? = some (.cells c8 36 (0, 0))) (l8 : w.heap.size ≤ p8) :
    W Try.prog (Ret fun u w' => u = .agg (bv (dblF (encF { t with ins := if al then (L.drop i).take 1 else L, outs := outsL t i o } ++ lowF 4 kind))).toArray ∧ Ext w w') 12 22 ((1, .int .i64 (i : Nat)) :: (2, x) :: (3, .int .u8 kind) :: (4, .pointer (some ⟨p4, 0, none⟩)) :: (8, .pointer (some ⟨p8, 0, none⟩)) :: (9, .int .u8 o) :: (10, .bool al) :: tl) wj := by
  have d4 := hP.c4
  by_cases h2 : o = 2
  · have h2' : decide (o = 2) = true := decide_eq_true h2
    have eo : outsL t i o = [] := by unfold outsL; rw [if_pos h2]
    rw [eo] at hok ⊢
    obtain ⟨hw, hP2⟩ := hP.put2 (v' := .slice none 0 0) (l' := []) (ListN.nil _ _ _ _ _)
    have h82 : (wj.setCell ⟨p4, 2, none⟩ (.slice none 0 0)).heap[p8]? = some (.cells c8 36 (0, 0)) := ((Keep.refl (fun y => y = p4) wj).setCell _ fun _ => rfl).at h8 fun e => by subst e; rw [d4] at h8; cases h8
    (refine W_at c12_ok ?_; refine ⟨_, rfl, ?_⟩; simp (disch := first | omega | assumption | rfl | (simp only [vcS] <;> omega) | fail) only [↓vcA, vcB, ↓reduceIte, Nat.reduceEqDiff])
    (refine W_at c12_ok ?_; refine ⟨_, rfl, ?_⟩; simp (disch := first | omega | assumption | rfl | (simp only [vcS] <;> omega) | fail) only [↓vcA, vcB, ↓reduceIte, Nat.reduceEqDiff, Option.bind_some, h2'])
    (refine W_at c12_ok ?_; refine ⟨_, rfl, ?_⟩; simp (disch := first | omega | assumption | rfl | (simp only [vcS] <;> omega) | fail) only [↓vcA, vcB, ↓reduceIte, Nat.reduceEqDiff])
    (refine W_at c12_ok ?_; refine ⟨_, rfl, ?_⟩; simp (disch := first | omega | assumption | rfl | (simp only [vcS] <;> omega) | fail) only [↓ptV_l, ↓vcA, vcB, ↓reduceIte, Nat.reduceEqDiff, Option.bind_some])
    refine ⟨hw, ?_⟩
    exact leg_alone w p4 p8 t vi _ L [] i hi hin kind hk al c8 hc8 hok _ _ hP2 h82 l8
  · have h2' : decide (o = 2) = false := decide_eq_false h2
    by_cases h3' : o = 3
    · have h3d : decide (o = 3) = true := decide_eq_true h3'
      have hio := h3 h3'
      have eo : outsL t i o = blankTo i (t.outs.take (i + 1)) := by unfold outsL; rw [if_neg h2, if_pos h3']
      rw [eo] at hok ⊢
      obtain ⟨q, c, rfl, hc⟩ := ListN.is hP.outs
      have wi : IntKind.i64.wrap ((i : Int) + 1) = ((i + 1 : Nat) : Int) := wrap_i64 (by omega) (by omega)
      have k1 : (0 : Int) ≤ ((i + 1 : Nat) : Int) ∧ ((i + 1 : Nat) : Int) ≤ (c : Nat) := by omega
      obtain ⟨hw, hP2⟩ := hP.put2 (ListN.take hP.outs (k := i + 1) (by omega))
      have h82 : (wj.setCell ⟨p4, 2, none⟩ (.slice q (i + 1) c)).heap[p8]? = some (.cells c8 36 (0, 0)) := ((Keep.refl (fun y => y = p4) wj).setCell _ fun _ => rfl).at h8 fun e => by subst e; rw [d4] at h8; cases h8
      (refine W_at c12_ok ?_; refine ⟨_, rfl, ?_⟩; simp (disch := first | omega | assumption | rfl | (simp only [vcS] <;> omega) | fail) only [↓vcA, vcB, ↓reduceIte, Nat.reduceEqDiff])
      (refine W_at c12_ok ?_; refine ⟨_, rfl, ?_⟩; simp (disch := first | omega | assumption | rfl | (simp only [vcS] <;> omega) | fail) only [↓vcA, vcB, ↓reduceIte, Nat.reduceEqDiff, Option.bind_some, h2'])
      (refine W_at c12_ok ?_; refine ⟨_, rfl, ?_⟩; simp (disch := first | omega | assumption | rfl | (simp only [vcS] <;> omega) | fail) only [↓vcA, vcB, ↓reduceIte, Nat.reduceEqDiff])
      (refine W_at c12_ok ?_; refine ⟨_, rfl, ?_⟩; simp (disch := first | omega | assumption | rfl | (simp only [vcS] <;> omega) | fail) only [↓vcA, vcB, ↓reduceIte, Nat.reduceEqDiff, Option.bind_some, h3d])
      (refine W_at c12_ok ?_; refine ⟨_, rfl, ?_⟩; simp (disch := first | omega | assumption | rfl | (simp only [vcS] <;> omega) | fail) only [↓vcA, vcB, ↓reduceIte, Nat.reduceEqDiff])
      (refine W_at c12_ok ?_; refine ⟨_, rfl, ?_⟩; simp (disch := first | omega | assumption | rfl | (simp only [vcS] <;> omega) | fail) only [↓ptV_l, ↓vcA, vcB, ↓reduceIte, Nat.reduceEqDiff, Option.bind_some, Option.map_some, vcM, d4, txC_2, wi, k1, Int.toNat_natCast, Nat.sub_zero])
      refine ⟨hw, ?_⟩
      generalize World.setCell _ _ _ = w2 at hP2 h82 ⊢
      (refine W_at c12_ok ?_; refine ⟨_, rfl, ?_⟩; simp (disch := first | omega | assumption | rfl | (simp only [vcS] <;> omega) | fail) only [↓vcA, vcB, ↓reduceIte, Nat.reduceEqDiff])
      refine leg_blank _ w p4 p8 t vi _ L (t.outs.take (i + 1)) i (by rw [List.length_take]; omega) (by rw [List.length_take]; omega) kind al c8 (fun wz tlz hz h8z => ?_) i 0 w2 _ (by omega) (by rw [blankTo_0]; exact hP2) h82
      exact leg_alone w p4 p8 t vi _ L _ i hi hin kind hk al c8 hc8 hok _ _ hz h8z l8
    · have h3d : decide (o = 3) = false := decide_eq_false h3'
      have eo : outsL t i o = t.outs := by unfold outsL; rw [if_neg h2, if_neg h3']
      rw [eo] at hok ⊢
      (refine W_at c12_ok ?_; refine ⟨_, rfl, ?_⟩; simp (disch := first | omega | assumption | rfl | (simp only [vcS] <;> omega) | fail) only [↓vcA, vcB, ↓reduceIte, Nat.reduceEqDiff])
      (refine W_at c12_ok ?_; refine ⟨_, rfl, ?_⟩; simp (disch := first | omega | assumption | rfl | (simp only [vcS] <;> omega) | fail) only [↓vcA, vcB, ↓reduceIte, Nat.reduceEqDiff, Option.bind_some, h2'])
      (refine W_at c12_ok ?_; refine ⟨_, rfl, ?_⟩; simp (disch := first | omega | assumption | rfl | (simp only [vcS] <;> omega) | fail) only [↓vcA, vcB, ↓reduceIte, Nat.reduceEqDiff])
      (refine W_at c12_ok ?_; refine ⟨_, rfl, ?_⟩; simp (disch := first | omega | assumption | rfl | (simp only [vcS] <;> omega) | fail) only [↓vcA, vcB, ↓reduceIte, Nat.reduceEqDiff, Option.bind_some, h3d])
      (refine W_at c12_ok ?_; refine ⟨_, rfl, ?_⟩; simp (disch := first | omega | assumption | rfl | (simp only [vcS] <;> omega) | fail) only [↓vcA, vcB, ↓reduceIte, Nat.reduceEqDiff])
      exact leg_alone w p4 p8 t vi vo L t.outs i hi hin kind hk al c8 hc8 hok _ _ hP h8 l8
end Go.Proofs
namespace Go.Proofs
open Go.Vc
set_option maxRecDepth 10000

set_option maxHeartbeats 3200000 in
theorem legacy_ok (w : World) (iv ov : Value) (t : TxV) (hT : TxR w iv ov t) (hok : t.Ok) (hs : t.Sm) (i : Int) (x : Value) (bs : List Int) (hx : Rd w x bs) (kind : Int) (hk : 0 ≤ kind ∧ kind ≤ 255) (hi64 : -9223372036854775808 ≤ i ∧ i ≤ 9223372036854775807)
    (hgo : ∀ n : Nat, n < t.ins.length → i = n → ∀ l, (l = t.ins.mapIdx (legIn n bs (kind % 32)) ∨ l = ((t.ins.mapIdx (legIn n bs (kind % 32))).drop n).take 1) → ({ t with ins := l, outs := outsL t n (kind % 32) } : TxV).Ok ∧ ({ t with ins := l, outs := outsL t n (kind % 32) } : TxV).Few 100 1000 ∧ (encF { t with ins := l, outs := outsL t n (kind % 32) }).length ≤ 90000000) :
    Calls Try.prog 12 #[.agg (txC t iv ov), .int .i64 i, x, .int .u8 kind] w (Ret fun u w' => u = .agg (bv (if i < 0 ∨ (t.ins.length : Int) ≤ i ∨ kind % 32 = 3 ∧ (t.outs.length : Int) ≤ i then oneD else dblF (encF { t with ins := if 128 ≤ kind then ((t.ins.mapIdx (legIn i.toNat bs (kind % 32))).drop i.toNat).take 1 else t.ins.mapIdx (legIn i.toNat bs (kind % 32)), outs := outsL t i.toNat (kind % 32) } ++ lowF 4 kind))).toArray ∧ Ext w w') := by
  refine calls_of_cfg c12_ok (Nat.le_of_ble_eq_true rfl) ?_
  simp only [argE_nil, argE_cons, Nat.reduceAdd, Nat.zero_add]
  have hi1 := ListR.one hT.ins
  have ho1 := ListR.one hT.outs
  have hli := ListR.len hT.ins
  have hlo := ListR.len hT.outs
  have hfx : flat (txC t iv ov) := by intro y hy; simp only [txC, List.mem_cons, List.not_mem_nil, or_false] at hy; rcases hy with rfl | rfl | rfl | rfl <;> first | rfl | assumption
  have hcx : (Value.agg (txC t iv ov)).cells = txC t iv ov := rfl
  have hzx := txC_sz t iv ov
  (refine W_at c12_ok ?_; refine ⟨_, rfl, ?_⟩; simp (disch := first | omega | assumption | rfl | (simp only [vcS] <;> omega) | fail) only [↓ptV_l, ↓vcA, vcB, ↓reduceIte, Nat.reduceEqDiff, reduceCtorEq, vcM, hcx])
  have hE1 : Ext w (w.alloc (.cells (txC t iv ov) 26)) := (Keep.refl _ w).alloc _
  have c1 : (w.alloc (.cells (txC t iv ov) 26)).heap[w.heap.size]? = some (.cells (txC t iv ov) 26 (0, 0)) := heap_new _ _ _ rfl
  have s1 : (w.alloc (.cells (txC t iv ov) 26)).heap.size = w.heap.size + 1 := size_alloc _ _
  generalize World.alloc w _ = w1 at hE1 c1 s1 ⊢
  have hE2 : Ext w1 (w1.alloc (.cells (zc [(32, .int .u8 0)]) 36)) := (Keep.refl _ w1).alloc _
  have c2 : (w1.alloc (.cells (zc [(32, .int .u8 0)]) 36)).heap[w1.heap.size]? = some (.cells (zc [(32, .int .u8 0)]) 36 (0, 0)) := heap_new _ _ _ rfl
  generalize World.alloc w1 _ = w2 at hE2 c2 ⊢
  rw [s1] at c2
  generalize hp1 : w.heap.size = p4 at c1 c2 s1 ⊢
  generalize hp2 : p4 + 1 = p8 at c2 s1 ⊢
  have c12 := hE2.at c1 (fun h => h)
  have hE02 := hE1.ext hE2
  (refine W_at c12_ok ?_; refine ⟨_, rfl, ?_⟩; simp (disch := first | omega | assumption | rfl | (simp only [vcS] <;> omega) | fail) only [↓ptV_l, ↓vcA, vcB, ↓reduceIte, Nat.reduceEqDiff, Option.bind_some, Option.map_some])
  refine callV_ret (way_ok w2 kind hk) ?_
  rintro _ wx ⟨rfl, hwx⟩
  rw [hwx]
  clear hwx
  first | (simp (disch := first | omega | assumption | rfl | (simp only [vcS] <;> omega) | fail) only [↓vcA, vcB, List.getElem?_toArray, List.getElem?_cons_zero, List.getElem?_cons_succ]) | skip
  have hzz : (zc [(32, Value.int .u8 0)]).size = 32 := rfl
  -- nothing to sign
  have noth : (i < 0 ∨ (t.ins.length : Int) ≤ i ∨ kind % 32 = 3 ∧ (t.outs.length : Int) ≤ i) → ∀ tl, W Try.prog (Ret fun u w' => u = .agg (bv (if i < 0 ∨ (t.ins.length : Int) ≤ i ∨ kind % 32 = 3 ∧ (t.outs.length : Int) ≤ i then oneD else dblF (encF { t with ins := if 128 ≤ kind then ((t.ins.mapIdx (legIn i.toNat bs (kind % 32))).drop i.toNat).take 1 else t.ins.mapIdx (legIn i.toNat bs (kind % 32)), outs := outsL t i.toNat (kind % 32) } ++ lowF 4 kind))).toArray ∧ Ext w w') 12 39 ((1, .int .i64 i) :: (2, x) :: (3, .int .u8 kind) :: (4, .pointer (some ⟨p4, 0, none⟩)) :: (8, .pointer (some ⟨p8, 0, none⟩)) :: tl) w2 := by
    intro hc tl
    rw [if_pos hc]
    (refine W_at c12_ok ?_; refine ⟨_, rfl, ?_⟩; simp (disch := first | omega | assumption | rfl | (simp only [vcS] <;> omega) | fail) only [↓ptV_l, ↓vcA, vcB, ↓reduceIte, Nat.reduceEqDiff])
    refine callV_ret (nothing_ok w2) ?_
    rintro _ w3 ⟨rfl, hE3⟩
    have c23 := hE3.at c2 (fun h => h)
    have s32 : (bv oneD).toArray.size = 32 := rfl
    have o32 : okO (some (.cells (zc [(32, .int .u8 0)]) 36 (0, 0))) 0 32 = True := by simp only [okO, hzz]; simp
    first | (simp (disch := first | omega | assumption | rfl | (simp only [vcS] <;> omega) | fail) only [↓vcA, vcB, vcM, c23, s32, o32]) | skip
    refine ⟨bv_flat _, ?_⟩
    have hk8 : Keep (fun g => g = p8) w3 (w3.putN p8 0 (bv oneD).toArray) := (Keep.refl _ w3).putN _ fun _ => rfl
    have d9 : (w3.putN p8 0 (bv oneD).toArray).heap[p8]? = some (.cells (bv oneD).toArray 36 (0, 0)) := by rw [heap_putN_eq c23, splice_all (by rw [s32]; rfl)]
    have hr32 : rdO (some (.cells (bv oneD).toArray 36 (0, 0))) 0 32 = some (bv oneD).toArray := rdO_all _ _ _ _ s32
    (refine W_at c12_ok ?_; refine ⟨_, rfl, ?_⟩; simp (disch := first | omega | assumption | rfl | (simp only [vcS] <;> omega) | fail) only [↓vcA, vcB, ↓reduceIte, Option.bind_some, Option.map_some, vcM, d9, hr32, Ret_returned])
    exact (hE02.ext hE3).trans hk8 fun g hg e => by omega
  have go : ¬ i < 0 → ¬ (t.ins.length : Int) ≤ i → ¬ (kind % 32 = 3 ∧ (t.outs.length : Int) ≤ i) → ∀ tl, W Try.prog (Ret fun u w' => u = .agg (bv (if i < 0 ∨ (t.ins.length : Int) ≤ i ∨ kind % 32 = 3 ∧ (t.outs.length : Int) ≤ i then oneD else dblF (encF { t with ins := if 128 ≤ kind then ((t.ins.mapIdx (legIn i.toNat bs (kind % 32))).drop i.toNat).take 1 else t.ins.mapIdx (legIn i.toNat bs (kind % 32)), outs := outsL t i.toNat (kind % 32) } ++ lowF 4 kind))).toArray ∧ Ext w w') 12 37 ((1, .int .i64 i) :: (2, x) :: (3, .int .u8 kind) :: (4, .pointer (some ⟨p4, 0, none⟩)) :: (8, .pointer (some ⟨p8, 0, none⟩)) :: (9, .int .u8 (kind % 32)) :: (10, .bool (decide (128 ≤ kind))) :: tl) w2 := by
    intro a1 a2 a3 tl
    rw [if_neg (by rintro (h | h | h); exact a1 h; exact a2 h; exact a3 h)]
    clear noth
    obtain ⟨n, rfl⟩ := Int.eq_ofNat_of_zero_le (show 0 ≤ i by omega)
    rw [Int.toNat_natCast]
    have hn : n < t.ins.length := by omega
    have hgo' := hgo n hn rfl
    have hr4 : rdO (some (.cells (txC t iv ov) 26 (0, 0))) 0 4 = some (txC t iv ov) := rdO_all _ _ _ _ rfl
    (refine W_at c12_ok ?_; refine ⟨_, rfl, ?_⟩; simp (disch := first | omega | assumption | rfl | (simp only [vcS] <;> omega) | fail) only [↓ptV_l, ↓vcA, vcB, ↓reduceIte, Nat.reduceEqDiff, Option.bind_some, Option.map_some, vcM, c12, hr4])
    refine callV_ret (tclone_ok w2 iv ov t (hT.ext hE02) hok hs) ?_
    rintro _ w3 ⟨vi, vo, rfl, hI, hO, hE3⟩
    have c13 := hE3.at c12 (fun h => h)
    have c23 := hE3.at c2 (fun h => h)
    have hz2 := txC_sz t vi vo
    have ho4 : okO (some (.cells (txC t iv ov) 26 (0, 0))) 0 4 = True := by simp only [okO, hzx]; simp
    first | (simp (disch := first | omega | assumption | rfl | (simp only [vcS] <;> omega) | fail) only [↓vcA, vcB, vcM, c13, hz2, ho4]) | skip
    have hw2 : w.heap.size ≤ w2.heap.size := hE02.size
    have hfv : flat (txC t vi vo) := by
      have a1 := ListN.one hI
      have a2 := ListN.one hO
      intro y hy; simp only [txC, List.mem_cons, List.not_mem_nil, or_false] at hy; rcases hy with rfl | rfl | rfl | rfl <;> first | rfl | assumption
    refine ⟨hfv, ?_⟩
    have hk4 : Keep (fun g => g = p4) w3 (w3.putN p4 0 (txC t vi vo)) := (Keep.refl _ w3).putN _ fun _ => rfl
    have hP : LS w (w3.putN p4 0 (txC t vi vo)) p4 t vi vo t.ins t.outs :=
      ⟨(hE02.ext hE3).trans hk4 fun g hg e => by omega, by rw [heap_putN_eq c13, splice_all (by rw [hzx, hz2])], ListN.imp (InsN.setT hI hk4 c13 (by decide) (by decide) (by decide)) hw2 fun c x _ hR => hR.iq hw2, ListN.imp (OusN.setT hO hk4 c13 (by decide) (by decide)) hw2 fun c y _ hR => hR.oq, by omega⟩
    have h8 : (w3.putN p4 0 (txC t vi vo)).heap[p8]? = some (.cells (zc [(32, .int .u8 0)]) 36 (0, 0)) := hk4.at c23 (by omega)
    generalize World.putN _ _ _ _ = w4 at hP h8 ⊢
    have d4 := hP.c4
    have hlen := ListN.len hP.ins
    (refine W_at c12_ok ?_; refine ⟨_, rfl, ?_⟩; simp (disch := first | omega | assumption | rfl | (simp only [vcS] <;> omega) | fail) only [↓vcA, vcB, ↓reduceIte, Nat.reduceEqDiff, Option.bind_some, vcM, d4, txC_1, hlen])
    refine leg_ins _ w p4 p8 t hok hs.ins vi vo t.outs n hn x bs hx kind (kind % 32) (decide (128 ≤ kind)) _ (fun wz tlz hz h8z => ?_) t.ins.length 0 w4 t.ins _ (by omega) rfl (fun a b c => by rw [if_neg (by omega)]) hP h8
    have := leg_switch w p4 p8 t vi vo (t.ins.mapIdx (legIn n bs (kind % 32))) n (by simpa using hn) (by simpa using hs.ins) hs.outs x kind (kind % 32) hk (fun h => by omega) (decide (128 ≤ kind)) _ hzz hgo' wz tlz hz h8z (by omega)
    simpa only [decide_eq_true_eq] using this
  revert noth go
  generalize Ret _ = Q
  intro noth go
  by_cases a1 : i < 0
  · (refine W_at c12_ok ?_; refine ⟨_, rfl, ?_⟩; simp (disch := first | omega | assumption | rfl | (simp only [vcS] <;> omega) | fail) only [↓vcA, vcB, ↓reduceIte, Nat.reduceEqDiff, Option.bind_some, a1])
    (refine W_at c12_ok ?_; refine ⟨_, rfl, ?_⟩; simp (disch := first | omega | assumption | rfl | (simp only [vcS] <;> omega) | fail) only [↓vcA, vcB, ↓reduceIte, Nat.reduceEqDiff])
    exact noth (.inl a1) _
  by_cases a2 : (t.ins.length : Int) ≤ i
  · (refine W_at c12_ok ?_; refine ⟨_, rfl, ?_⟩; simp (disch := first | omega | assumption | rfl | (simp only [vcS] <;> omega) | fail) only [↓vcA, vcB, ↓reduceIte, Nat.reduceEqDiff, Option.bind_some, vcM, a1, a2, c12, txC_1, txC_2, hli, hlo])
    (refine W_at c12_ok ?_; refine ⟨_, rfl, ?_⟩; simp (disch := first | omega | assumption | rfl | (simp only [vcS] <;> omega) | fail) only [↓vcA, vcB, ↓reduceIte, Nat.reduceEqDiff])
    exact noth (.inr (.inl a2)) _
  by_cases a3 : kind % 32 = 3
  · have a3' : decide (kind % 32 = 3) = true := decide_eq_true a3
    by_cases a4 : (t.outs.length : Int) ≤ i
    · (refine W_at c12_ok ?_; refine ⟨_, rfl, ?_⟩; simp (disch := first | omega | assumption | rfl | (simp only [vcS] <;> omega) | fail) only [↓vcA, vcB, ↓reduceIte, Nat.reduceEqDiff, Option.bind_some, vcM, a1, a2, a3', a4, c12, txC_1, txC_2, hli, hlo])
      (refine W_at c12_ok ?_; refine ⟨_, rfl, ?_⟩; simp (disch := first | omega | assumption | rfl | (simp only [vcS] <;> omega) | fail) only [↓vcA, vcB, ↓reduceIte, Nat.reduceEqDiff])
      exact noth (.inr (.inr ⟨a3, a4⟩)) _
    · (refine W_at c12_ok ?_; refine ⟨_, rfl, ?_⟩; simp (disch := first | omega | assumption | rfl | (simp only [vcS] <;> omega) | fail) only [↓vcA, vcB, ↓reduceIte, Nat.reduceEqDiff, Option.bind_some, vcM, a1, a2, a3', a4, c12, txC_1, txC_2, hli, hlo])
      (refine W_at c12_ok ?_; refine ⟨_, rfl, ?_⟩; simp (disch := first | omega | assumption | rfl | (simp only [vcS] <;> omega) | fail) only [↓vcA, vcB, ↓reduceIte, Nat.reduceEqDiff])
      exact go a1 a2 (fun h => a4 h.2) _
  · have a3' : decide (kind % 32 = 3) = false := decide_eq_false a3
    (refine W_at c12_ok ?_; refine ⟨_, rfl, ?_⟩; simp (disch := first | omega | assumption | rfl | (simp only [vcS] <;> omega) | fail) only [↓vcA, vcB, ↓reduceIte, Nat.reduceEqDiff, Option.bind_some, vcM, a1, a2, a3', c12, txC_1, txC_2, hli, hlo])
    (refine W_at c12_ok ?_; refine ⟨_, rfl, ?_⟩; simp (disch := first | omega | assumption | rfl | (simp only [vcS] <;> omega) | fail) only [↓vcA, vcB, ↓reduceIte, Nat.reduceEqDiff])
    exact go a1 a2 (fun h => a3 h.1) _
end Go.Proofs
namespace Go.Proofs
open Go.Vc
set_option maxRecDepth 10000

def pC (prev : List Int) (idx : Int) : Array Value := (bv prev ++ [Value.int .u32 idx]).toArray
theorem pC_size {prev : List Int} (h : prev.length = 32) (idx : Int) : (pC prev idx).size = 33 := by simp [pC, bv_len, h]
/-- Steps of a writer, one behind the other. -/
theorem WTo.pre {w w1 w2 : World} {p : Nat} {v : Value} {bs : List Int} (k : Ext w w1) (h : WTo w1 w2 p v bs) : WTo w w2 p v bs := by
  obtain ⟨⟨v2, ha, hg⟩, hk⟩ := h
  exact ⟨⟨v2, ha, fun g hb => (hg g hb).imp id fun h => Nat.le_trans k.size h⟩, (k.mono fun _ h => h.elim).trans hk fun i _ h => h⟩
theorem WTo.then {w w1 : World} {p : Nat} {v : Value} {bs : List Int} (h : WTo w w1 p v bs) : ∃ v1, WAt w1 p v1 bs ∧ ∀ w2 bs2, WTo w1 w2 p v1 bs2 → WTo w w2 p v bs2 := by
  obtain ⟨⟨v1, ha, hg⟩, hk⟩ := h
  exact ⟨v1, ha, fun w2 bs2 h2 => WTo.trans hk hg h2⟩
def zeroD : List Int := List.replicate 32 0
end Go.Proofs
