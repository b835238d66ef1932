/- Plain: slices of bytes, read and of one's own. -/
import Derived.Test.YthjgmajfkfhdaaaIr
import Derived.Test.YthjgmajfkfhdaaaVcJ
set_option linter.unusedSimpArgs false
set_option linter.unusedVariables false
set_option linter.constructorNameAsVariable false
namespace Go.Proofs
open Go.Vc
set_option maxRecDepth 10000

/-- The bytes as values. -/
def bv (bs : List Int) : List Value := bs.map (.int .u8)
theorem bv_len (bs : List Int) : (bv bs).length = bs.length := by simp [bv]
theorem bv_app (a b : List Int) : bv (a ++ b) = bv a ++ bv b := by simp [bv]
theorem bv_flat (bs : List Int) : flat (bv bs).toArray := by
  intro v hv; simp [bv] at hv; obtain ⟨_, _, rfl⟩ := hv; rfl
theorem bv_inj {a b : List Int} : bv a = bv b ↔ a = b := by
  constructor
  · intro h
    exact List.map_inj_right (f := Value.int .u8) (fun x y h => by cases h; rfl) |>.1 h
  · rintro rfl; rfl
theorem bv_get {bs : List Int} {i : Nat} (h : i < bs.length) : (bv bs)[i]? = some (.int .u8 bs[i]) := by simp [bv, h]
def byt (bs : List Int) : Prop := ∀ b ∈ bs, 0 ≤ b ∧ b ≤ 255
theorem byt_app {a b : List Int} (h : byt a) (k : byt b) : byt (a ++ b) := by
  intro x hx; rcases List.mem_append.1 hx with hx | hx; exact h x hx; exact k x hx
theorem byt_take {a : List Int} (h : byt a) (n : Nat) : byt (a.take n) := fun x hx => h x (List.mem_of_mem_take hx)
theorem byt_drop {a : List Int} (h : byt a) (n : Nat) : byt (a.drop n) := fun x hx => h x (List.mem_of_mem_drop hx)
theorem byt_nil : byt [] := fun _ h => by cases h

/-- A slice that reads as bytes. -/
structure Rd (w : World) (v : Value) (bs : List Int) : Prop where
  is : ∃ q c, v = .slice q bs.length c ∧ bs.length ≤ c
  mx : bs.length ≤ maxLen
  rd : rdS w 1 v = some (bv bs).toArray
theorem Rd.keep {S : Nat → Prop} {w w' : World} {v : Value} {bs : List Int} (h : Rd w v bs) (k : Keep S w w') (hS : ∀ q n c, v = .slice (some q) n c → ¬ S q.block) : Rd w' v bs := by
  obtain ⟨⟨q, c, rfl, hc⟩, hm, hr⟩ := h
  refine ⟨⟨q, c, rfl, hc⟩, hm, ?_⟩
  simp only [rdS] at hr ⊢
  split
  · rename_i h0; rw [if_pos h0] at hr; exact hr
  · rename_i h0
    rw [if_neg h0] at hr
    split at hr
    · rename_i b o
      rw [rdN_heap] at hr ⊢
      cases hb : w.heap[b]? with
      | none => rw [hb] at hr; cases hr
      | some x =>
        have hk := k.at hb (hS _ _ _ rfl)
        simp only [rdN_heap, hk]
        rw [hb] at hr; exact hr
    · cases hr
theorem Rd.ext {w w' : World} {v : Value} {bs : List Int} (h : Rd w v bs) (k : Ext w w') : Rd w' v bs := h.keep k fun _ _ _ _ h => h
theorem Rd.len {w : World} {v : Value} {bs : List Int} (h : Rd w v bs) : lenR v = some (.int .i64 bs.length) := by
  obtain ⟨⟨q, c, rfl, _⟩, _, _⟩ := h; rfl
theorem Rd.one {w : World} {v : Value} {bs : List Int} (h : Rd w v bs) : v.oneCell' = true := by
  obtain ⟨⟨q, c, rfl, _⟩, _, _⟩ := h; rfl
theorem Rd.at {w : World} {v : Value} {bs : List Int} (h : Rd w v bs) {i : Nat} (hi : i < bs.length) :
    ∃ b o c, v = .slice (some ⟨b, o, none⟩) bs.length c ∧ cellO w.heap[b]? (o + i) = some (.int .u8 bs[i]) := by
  obtain ⟨⟨q, c, rfl, _⟩, hm, hr⟩ := h
  simp only [rdS] at hr
  rw [if_neg (by omega)] at hr
  split at hr
  · rename_i b o
    refine ⟨b, o, c, rfl, ?_⟩
    rw [rdN_heap] at hr
    cases hb : w.heap[b]? with
    | none => rw [hb] at hr; cases hr
    | some x =>
      rw [hb] at hr
      cases x with
      | cells d t fr =>
        simp only [rdO] at hr
        split at hr
        · rename_i hle
          simp only [Option.some.injEq] at hr
          rw [cellO_some]
          have h1 : (d.extract o (o + bs.length * 1))[i]? = some (.int .u8 bs[i]) := by rw [hr]; simp [bv, hi]
          rw [Array.getElem?_extract] at h1
          split at h1
          · exact h1
          · cases h1
        · cases hr
      | _ => cases hr
  · cases hr
/-- The text of some bytes. -/
def strOf (bs : List Int) : ByteArray := ⟨(bs.map fun m => UInt8.ofNat m.toNat).toArray⟩
theorem bytesOf_bv (bs : List Int) : bytesOf (bv bs) = some (bs.map fun m => UInt8.ofNat m.toNat) := by
  induction bs with
  | nil => rfl
  | cons b bs ih =>
    have : bv (b :: bs) = .int .u8 b :: bv bs := rfl
    rw [this, bytesOf, ih]; rfl
theorem Rd.b2s {w : World} {v : Value} {bs : List Int} (h : Rd w v bs) : b2sR w v = some (.string (strOf bs)) := by
  obtain ⟨⟨q, c, rfl, hc⟩, hm, hr⟩ := h
  cases q with
  | none =>
    have hb0 : bs = [] := by
      cases bs with
      | nil => rfl
      | cons b bs => simp [rdS] at hr
    subst hb0; rfl
  | some a =>
    simp only [b2sR]
    by_cases h0 : bs.length = 0
    · have : bs = [] := List.eq_nil_of_length_eq_zero h0
      subst this; rfl
    · rw [if_neg h0]
      simp only [rdS, if_neg h0] at hr
      obtain ⟨b, o, sp⟩ := a
      cases sp with
      | some x => cases hr
      | none =>
        simp only [Nat.mul_one] at hr
        simp only [hr, Option.bind_some, bytesOf_bv, Option.map_some]
        rfl
theorem strOf_inj : ∀ {a b : List Int}, byt a → byt b → (strOf a = strOf b ↔ a = b) := by
  intro a b ha hb
  constructor
  · intro h
    have h1 : a.map (fun m => UInt8.ofNat m.toNat) = b.map (fun m => UInt8.ofNat m.toNat) := by
      have := congrArg (fun x : ByteArray => x.data.toList) h
      simpa [strOf] using this
    clear h
    induction a generalizing b with
    | nil => cases b with
      | nil => rfl
      | cons y b => simp at h1
    | cons x a ih =>
      cases b with
      | nil => simp at h1
      | cons y b =>
        simp only [List.map_cons, List.cons.injEq] at h1
        have hx := ha x (by simp)
        have hy := hb y (by simp)
        have h2 := congrArg UInt8.toNat h1.1
        simp only [UInt8.toNat_ofNat'] at h2
        have e : x = y := by omega
        rw [e, ih (fun z hz => ha z (by simp [hz])) (fun z hz => hb z (by simp [hz])) h1.2]
  · rintro rfl; rfl
/-- A part of the bytes. -/
theorem Rd.cut {w : World} {q : Option Addr} {n c : Nat} {bs : List Int} (h : Rd w (.slice q n c) bs) {l j : Nat} (hl : l ≤ j) (hj : j ≤ n) : Rd w (.slice (advA 1 q c l) (j - l) (c - l)) ((bs.take j).drop l) := by
  obtain ⟨⟨q', c', e, hc⟩, hm, hr⟩ := h
  cases e
  have hlen : ((bs.take j).drop l).length = j - l := by rw [List.length_drop, List.length_take]; omega
  refine ⟨⟨_, _, by rw [hlen], by omega⟩, by omega, ?_⟩
  simp only [rdS] at hr ⊢
  split
  · rename_i h0
    have : (bs.take j).drop l = [] := List.eq_nil_of_length_eq_zero (by omega)
    rw [this]; rfl
  · rename_i h0
    rw [if_neg (by omega)] at hr
    split at hr
    · rename_i b o
      rw [rdN_heap] at hr
      have hadv : advA 1 (some ⟨b, o, none⟩) c l = some ⟨b, o + l, none⟩ := by
        unfold advA
        rw [if_neg (by omega)]
        simp only [Option.map_some, Addr.add, Nat.mul_one]
        split
        · rename_i h0; subst h0; rfl
        · rfl
      rw [hadv]
      simp only [rdN_heap]
      cases hb : w.heap[b]? with
      | none => rw [hb] at hr; cases hr
      | some x =>
        rw [hb] at hr
        cases x with
        | cells d t fr =>
          simp only [rdO] at hr ⊢
          split at hr
          · rw [if_pos (by omega)]
            simp only [Option.some.injEq] at hr ⊢
            apply Array.ext'
            have h3 := congrArg (fun x => (x.toList.take j).drop l) hr
            simp only [Array.toList_extract, List.extract_eq_take_drop, List.take_take, List.drop_take, List.drop_drop] at h3 ⊢
            rw [show o + l + (j - l) * 1 - (o + l) = j - l by omega]
            rw [show min j (o + bs.length * 1 - o) - l = j - l by omega] at h3
            rw [h3]; simp [bv, List.map_take, List.map_drop, List.drop_take]
          · cases hr
        | _ => cases hr
    · cases hr
theorem Rd.nil (w : World) : Rd w (.slice none 0 0) [] := ⟨⟨none, 0, rfl, Nat.le_refl _⟩, Nat.zero_le _, rfl⟩

/-- A slice of bytes of one's own. -/
abbrev Own1 (w : World) (v : Value) (bs : List Int) : Prop := w.ownsRow 0 5 1 v bs.length (bv bs)
theorem Own1.rd {w : World} {v : Value} {bs : List Int} (h : Own1 w v bs) : Rd w v bs := by
  refine ⟨?_, row_max h, rdS_own h⟩
  obtain ⟨_, ⟨rfl, h0⟩ | ⟨g, cap, cur, rfl, _, _, hn, _⟩⟩ := h
  · exact ⟨none, 0, by rw [h0], by omega⟩
  · exact ⟨_, _, rfl, hn⟩
theorem Own1.nil (w : World) : Own1 w (.slice none 0 0) [] := ⟨rfl, .inl ⟨rfl, rfl⟩⟩
theorem row_type {w : World} {base el size n : Nat} {v : Value} {xs : List Value} (h : w.ownsRow base el size v n xs) {g : Nat} (hg : v.ownBlock = some g) : ∃ cur, w.heap[g]? = some (.cells cur el (0, 0)) := by
  obtain ⟨_, ⟨rfl, _⟩ | ⟨g', cap, cur, rfl, hbg, hh, _⟩⟩ := h
  · cases hg
  · cases hg; exact ⟨cur, hh⟩
/-- 'b' is the block of the slice. -/
def blk (v : Value) (g : Nat) : Prop := v.ownBlock = some g
theorem Own1.lt {w : World} {v : Value} {bs : List Int} (h : Own1 w v bs) {g : Nat} (hg : blk v g) : g < w.heap.size := by
  obtain ⟨cur, hc⟩ := row_type h hg
  exact lt_of_heap hc
theorem Own1.keep {S : Nat → Prop} {w w' : World} {v : Value} {bs : List Int} (h : Own1 w v bs) (k : Keep S w w') (hS : ∀ g, blk v g → ¬ S g) : Own1 w' v bs := ownsRow_keep h k hS
theorem Own1.ext {w w' : World} {v : Value} {bs : List Int} (h : Own1 w v bs) (k : Ext w w') : Own1 w' v bs := ownsRow_keep h k fun _ _ h => h
theorem own_lit {w : World} {el size n : Nat} {cs : List Value} (hl : cs.length = n * size) (hn : n ≤ maxLen) : (w.alloc (.cells cs.toArray el)).ownsRow 0 el size (.slice (some ⟨w.heap.size, 0, none⟩) n n) n cs := by
  refine ⟨hl, .inr ⟨w.heap.size, n, cs.toArray, rfl, Nat.zero_le _, heap_new _ _ _ rfl, Nat.le_refl _, hn, by simp [hl], ?_⟩⟩
  rw [← hl]; simp
theorem own_lit1 {w : World} {bs : List Int} (hn : bs.length ≤ maxLen) : Own1 (w.alloc (.cells (bv bs).toArray 5)) (.slice (some ⟨w.heap.size, 0, none⟩) bs.length bs.length) bs :=
  own_lit (by rw [bv_len, Nat.mul_one]) hn

/-- 'append' of bytes onto a slice of one's own. -/
theorem appB {w : World} {v x : Value} {bs news : List Int} {K : Value → World → Prop} (h : Own1 w v bs) (hx : Rd w x news) (hlen : bs.length + news.length ≤ 1000000000)
    (hk : ∀ v' w', Own1 w' v' (bs ++ news) → Keep (blk v) w w' → (∀ g, blk v' g → blk v g ∨ w.heap.size ≤ g) → K v' w') : appV 5 1 1 [.int .u8 0] v x w K := by
  obtain ⟨⟨q, c, rfl, hc⟩, hm, hr⟩ := hx
  have hml : maxLen = 9223372036854775807 := rfl
  refine appV_own3 h rfl hr (bv_flat news) (by omega) (by omega) rfl (Nat.zero_le _) (by omega) fun v' w' ho hg hb => hk v' w' ?_ ?_ hb
  · have e : bv (bs ++ news) = bv bs ++ (bv news).toArray.toList := by rw [bv_app]
    show w'.ownsRow 0 5 1 v' (bs ++ news).length (bv (bs ++ news))
    rw [e, List.length_append]; exact ho
  · exact (Keep.refl _ w).grown hg fun k _ h => h
/-- The same, behind a literal of bytes. -/
theorem appL {w : World} {v : Value} {bs news : List Int} {K : Value → World → Prop} (h : Own1 w v bs) (hlen : bs.length + news.length ≤ 1000000000)
    (hk : ∀ v' w', Own1 w' v' (bs ++ news) → Keep (blk v) w w' → (∀ g, blk v' g → blk v g ∨ w.heap.size ≤ g) → K v' w') :
    appV 5 1 1 [.int .u8 0] v (.slice (some ⟨w.heap.size, 0, none⟩) news.length news.length) (w.alloc (.cells (bv news).toArray 5)) K := by
  have hE : Ext w (w.alloc (.cells (bv news).toArray 5)) := (Keep.refl _ w).alloc _
  have hml : maxLen = 9223372036854775807 := rfl
  refine appB (h.ext hE) (own_lit1 (w := w) (bs := news) (by omega)).rd hlen fun v' w' h1 h2 h3 => hk v' w' h1 ((hE.mono fun _ h => h.elim).trans h2 fun _ _ h => h) fun g hg => ?_
  rcases h3 g hg with h | h
  · exact .inl h
  · exact .inr (by rw [size_alloc] at h; omega)
end Go.Proofs
