/- SHA-256 piece by piece: what comes. -/
import Derived.Test.YthjgmajfkfhdaaaH4
import Derived.Test.YthjgmajfkfhdaaaDN
set_option linter.unusedSimpArgs false
set_option linter.unusedVariables false
set_option linter.constructorNameAsVariable false
namespace Go.Proofs
open Go.Vc
set_option maxRecDepth 10000

/-- 'append' of a row. -/
theorem appO2 {w : World} {base el size bytes : Nat} {z : List Value} {v : Value} {ids ids2 : List (Array Value)} {q : Option Addr} {m c2 : Nat} {K : Value → World → Prop} (h : OwnO w base el size v ids)
    (hr : rdS w size (.slice q m c2) = some (ids2.flatMap Array.toList).toArray) (hm : ids2.length = m) (hs2 : ∀ k ∈ ids2, k.size = size) (hf : ∀ k ∈ ids2, flat k)
    (hlen : ids.length + m ≤ 1000000000) (hb : (ids.length + m) * bytes ≤ 140737488355328) (hz : z.length = size) (hbase : base ≤ w.heap.size) (hs : 0 < size)
    (hk : ∀ v' w', OwnO w' base el size v' (ids ++ ids2) → Keep (Go.Proofs.blk v) w w' → (∀ g, Go.Proofs.blk v' g → Go.Proofs.blk v g ∨ w.heap.size ≤ g) → K v' w') :
    appV el size bytes z v (.slice q m c2) w K := by
  have hml : maxLen = 9223372036854775807 := rfl
  have hs3 : ∀ k ∈ ids ++ ids2, k.size = size := fun k hk => by
    rcases List.mem_append.1 hk with hk | hk
    · exact h.sz k hk
    · exact hs2 k hk
  have hfl : (ids ++ ids2).flatMap Array.toList = ids.flatMap Array.toList ++ ids2.flatMap Array.toList := by simp
  have hfll : (ids.flatMap Array.toList).length = ids.length * size := flat_len h.sz
  have hfl2 : (ids2.flatMap Array.toList).length = m * size := by rw [flat_len hs2, hm]
  have hro := h.rd
  have hl2 : (ids ++ ids2).length = ids.length + m := by rw [List.length_append, hm]
  have hmul : (ids.length + m) * size = ids.length * size + m * size := Nat.add_mul _ _ _
  have grow : ∀ c', ids.length + m ≤ c' → c' ≤ maxLen → K (.slice (some ⟨w.heap.size, 0, none⟩) (ids.length + m) c')
      (w.drew.alloc (.cells (ids.flatMap Array.toList ++ ids2.flatMap Array.toList ++ zrep (c' - (ids.length + m)) z).toArray el)) := by
    intro c' h1 h2
    refine hk _ _ ⟨hs3, .inr ⟨_, 0, c', _, by rw [hl2], hbase, heap_new w.drew _ _ rfl, by rw [hl2]; exact h1, h2, ?_, ?_⟩⟩ ?_ ?_
    · simp only [List.size_toArray, List.length_append, hfll, hfl2, length_zrep, hz]
      rw [Nat.zero_add, ← hmul, ← Nat.add_mul]
      exact Nat.mul_le_mul_right _ (by omega)
    · rw [hl2, List.drop_zero, hfl]
      rw [List.take_left']
      rw [List.length_append, hfll, hfl2, hmul]
    · exact ((Keep.refl _ w).drew).alloc _
    · intro g hg; cases hg; exact .inr (Nat.le_refl _)
  have keep0 : ∀ (q : Option Addr) (c : Nat), v = .slice q ids.length c → m * size = 0 → K (.slice q (ids.length + m) c) w := by
    intro q c hv h0
    have hm0 : m = 0 := by rcases Nat.mul_eq_zero.1 h0 with h | h; exact h; omega
    subst hm0
    have : ids2 = [] := List.eq_nil_of_length_eq_zero hm
    subst this
    rw [Nat.add_zero, ← hv]
    refine hk v w ?_ (Keep.refl _ w) fun g hg => .inl hg
    rw [List.append_nil]; exact h
  unfold appV
  obtain ⟨q', c, rfl, hcap⟩ := h.is
  simp only [hro, hr, getV_some]
  refine ⟨flat_flat hf, by omega, hb, hz, fun hc' => ⟨fun h0 => keep0 _ _ rfl h0, fun h0 b o' hp => ?_⟩, fun hc' h0 => ?_, fun _ => grow⟩
  · subst hp
    obtain ⟨_, ⟨e, _⟩ | ⟨g, o, cap, cur, e, hbg, hg, hn, hcm, hle, htake⟩⟩ := h
    · cases e
    · injection e with e1 e2 e3
      injection e1 with e1
      injection e1 with e4 e5
      subst e3 e4 e5
      have e6 : (ids.length + m) * size ≤ c * size := Nat.mul_le_mul_right _ hc'
      rw [hmul] at e6
      refine ⟨okN_of hg (by omega), hk _ _ ⟨hs3, .inr ⟨_, _, c, _, by rw [hl2], hbg, heap_putN_eq hg, by rw [hl2]; exact hc', hcm, ?_, ?_⟩⟩ ?_ fun g' hg' => .inl hg'⟩
      · simp only [spliceA, List.size_toArray, List.length_append, List.length_take, List.length_drop, Array.length_toList (xs := cur), hfl2]
        omega
      · rw [hl2, hfl, ← htake]
        simp only [spliceA]
        rw [hmul]
        have hlen1 : (cur.toList.take (o' + ids.length * size)).length = o' + ids.length * size := by rw [List.length_take, Array.length_toList (xs := cur)]; omega
        rw [List.append_assoc, List.drop_append_of_le_length (by rw [hlen1]; omega), List.drop_take, Nat.add_sub_cancel_left]
        have hlen2 : ((cur.toList.drop o').take (ids.length * size)).length = ids.length * size := by rw [htake, hfll]
        rw [List.take_append, hlen2, List.take_of_length_le (by rw [hlen2]; omega), Nat.add_sub_cancel_left, List.take_left' hfl2]
      · exact (Keep.refl _ w).putN _ fun _ => rfl
  · obtain ⟨_, ⟨e, _⟩ | ⟨g, o, cap, cur, e, _⟩⟩ := h
    · injection e with e1 e2 e3
      subst e3
      exfalso
      have hm0 : m = 0 := by omega
      rw [hm0, Nat.zero_mul] at h0
      exact h0 rfl
    · injection e with e1
      exact ⟨_, _, e1⟩


theorem Rd.any {w w' : World} {x : Value} (h : Rd w x []) : Rd w' x [] := by
  obtain ⟨⟨q, c, e, hc⟩, hm, _⟩ := h
  subst e
  exact ⟨⟨q, c, rfl, hc⟩, hm, by simp only [rdS, List.length_nil, if_true]; rfl⟩
theorem Rd.keep0 {S : Nat → Prop} {w w' : World} {x : Value} {bs : List Int} (h : Rd w x bs) (k : Keep S w w') (hS : bs ≠ [] → ∀ q n c, x = .slice (some q) n c → ¬ S q.block) : Rd w' x bs := by
  by_cases h0 : bs = []
  · subst h0; exact h.any
  · exact h.keep k (hS h0)
theorem Rd.lt {w : World} {x : Value} {bs : List Int} (h : Rd w x bs) (h0 : bs ≠ []) : ∀ q n c, x = .slice (some q) n c → q.block < w.heap.size := fun q n c e => by
  obtain ⟨b, o, c', e', hc⟩ := h.at (i := 0) (List.length_pos_iff.2 h0)
  rw [e] at e'
  cases e'
  show b < w.heap.size
  cases hh : w.heap[b]? with
  | none => rw [hh] at hc; cases hc
  | some y => exact lt_of_heap hh
/-- Bytes of one's own, from any place of their block on. -/
def u8s (bs : List Int) : List (Array Value) := bs.map fun x => #[Value.int .u8 x]
theorem u8s_len (bs : List Int) : (u8s bs).length = bs.length := List.length_map _
theorem u8s_flat (bs : List Int) : (u8s bs).flatMap Array.toList = bv bs := by
  unfold u8s bv
  induction bs with
  | nil => rfl
  | cons x bs ih => simp only [List.map_cons, List.flatMap_cons, ih]; rfl
def ByO (w : World) (v : Value) (bs : List Int) : Prop := OwnO w 0 5 1 v (u8s bs)
theorem ByO.rd {w : World} {v : Value} {bs : List Int} (h : ByO w v bs) : Rd w v bs := by
  have h1 := OwnO.rd h
  rw [u8s_flat] at h1
  obtain ⟨q, c, e, hc⟩ := OwnO.is h
  rw [u8s_len] at e hc
  refine ⟨⟨q, c, e, hc⟩, ?_, h1⟩
  obtain ⟨_, ⟨_, h2⟩ | ⟨g, o, cap, cur, e2, _, _, h3, h4, _⟩⟩ := h
  · have : bs.length = 0 := by rw [← u8s_len, h2]; rfl
    omega
  · rw [u8s_len] at h3; omega
theorem ByO.nil (w : World) : ByO w (.slice none 0 0) [] := OwnO.nil _ _ _ _
theorem ByO.keep {S : Nat → Prop} {w w' : World} {v : Value} {bs : List Int} (h : ByO w v bs) (k : Keep S w w') (hS : ∀ g, blk v g → ¬ S g) : ByO w' v bs := OwnO.keep h k hS
theorem ByO.ext {w w' : World} {v : Value} {bs : List Int} (h : ByO w v bs) (k : Ext w w') : ByO w' v bs := h.keep k fun _ _ h => h
theorem ByO.blk {w : World} {v : Value} {bs : List Int} (h : ByO w v bs) {g : Nat} (hg : Go.Proofs.blk v g) : ∃ c, w.heap[g]? = some (.cells c 5 (0, 0)) := (OwnO.blk h hg).2
theorem ByO.drop {w : World} {v : Value} {bs : List Int} (h : ByO w v bs) {l : Nat} (hl : l ≤ bs.length) : ∃ q c, v = .slice q bs.length c ∧ bs.length ≤ c ∧ ByO w (.slice (advA 1 q c l) (bs.length - l) (c - l)) (bs.drop l) := by
  obtain ⟨q, c, e, hc, h2⟩ := OwnO.drop h (l := l) (by rw [u8s_len]; exact hl)
  rw [u8s_len] at e hc h2
  refine ⟨q, c, e, hc, ?_⟩
  unfold ByO
  rw [show u8s (bs.drop l) = (u8s bs).drop l from List.map_drop]
  exact h2
theorem ByO.app {w : World} {v x : Value} {bs news : List Int} {K : Value → World → Prop} (h : ByO w v bs) (hx : Rd w x news) (hl : bs.length + news.length ≤ 1000000000)
    (hk : ∀ v' w', ByO w' v' (bs ++ news) → Keep (Go.Proofs.blk v) w w' → (∀ g, Go.Proofs.blk v' g → Go.Proofs.blk v g ∨ w.heap.size ≤ g) → K v' w') : appV 5 1 1 [.int .u8 0] v x w K := by
  obtain ⟨q, c, e, hc⟩ := hx.is
  have hr := hx.rd
  subst e
  have hfl : ∀ k ∈ u8s news, flat k := fun k hk => by
    obtain ⟨y, _, rfl⟩ := List.mem_map.1 hk
    rw [flat_1]; rfl
  refine appO2 (ids2 := u8s news) h (by rw [u8s_flat]; exact hr) (u8s_len _) (fun k hk => by obtain ⟨y, _, rfl⟩ := List.mem_map.1 hk; rfl) hfl (by rw [u8s_len]; exact hl) (by rw [u8s_len]; omega) rfl (Nat.zero_le _) (by decide) fun v' w' h1 h2 h3 => hk v' w' ?_ h2 h3
  unfold ByO
  rw [show u8s (bs ++ news) = u8s bs ++ u8s news from List.map_append]
  exact h1
/-- The zero state. -/
def zs : S8 := ⟨0, 0, 0, 0, 0, 0, 0, 0⟩
def stF (m : List Int) (b : Bool) : S8 := if b then curS m else zs
def sumC (m : List Int) (b : Bool) (wv : Value) : Array Value := ((stF m b).list.map U32 ++ [wv, .int .u64 (m.length : Nat), .bool b]).toArray
structure SumAt (w : World) (g : Nat) (wv : Value) (m : List Int) (b : Bool) : Prop where
  obj : w.heap[g]? = some (.cells (sumC m b wv) 32 (0, 0))
  wait : ByO w wv (waitL m)
  zero : b = false → m = []
theorem sumC_0 : zc [(8, .int .u32 0), (1, .slice none 0 0), (1, .int .u64 0), (1, .bool false)] = sumC [] false (.slice none 0 0) := rfl
theorem SumAt.keep {S : Nat → Prop} {w w' : World} {g : Nat} {wv : Value} {m : List Int} {b : Bool} (h : SumAt w g wv m b) (k : Keep S w w') (h1 : ¬ S g) (h2 : ∀ x, blk wv x → ¬ S x) : SumAt w' g wv m b := ⟨k.at h.obj h1, h.wait.keep k h2, h.zero⟩
theorem SumAt.ext {w w' : World} {g : Nat} {wv : Value} {m : List Int} {b : Bool} (h : SumAt w g wv m b) (k : Ext w w') : SumAt w' g wv m b := h.keep k (fun h => h) fun _ _ h => h
theorem SumAt.ne {w : World} {g : Nat} {wv : Value} {m : List Int} {b : Bool} (h : SumAt w g wv m b) {x : Nat} (hx : blk wv x) : x ≠ g := fun e => by
  obtain ⟨c, hc⟩ := h.wait.blk hx
  rw [e, h.obj] at hc; cases hc
theorem sumC_8 (m : List Int) (b : Bool) (wv : Value) : (sumC m b wv)[8]? = some wv := rfl
theorem sumC_9 (m : List Int) (b : Bool) (wv : Value) : (sumC m b wv)[9]? = some (.int .u64 (m.length : Nat)) := rfl
theorem sumC_10 (m : List Int) (b : Bool) (wv : Value) : (sumC m b wv)[10]? = some (.bool b) := rfl
theorem sumC_size (m : List Int) (b : Bool) (wv : Value) : (sumC m b wv).size = 11 := rfl
theorem sumC_rd8 (m : List Int) (b : Bool) (wv : Value) (T : TypeId) : rdO (some (.cells (sumC m b wv) T (0, 0))) 0 8 = some (wcs (stF m b).list) := rd8 _ _ _
end Go.Proofs
