/- Laws that the last text of this claim uses, part 4: written for it, merged by program. -/
import Derived.Test.YtmbjokhekfiihaaQB3
set_option linter.unusedSimpArgs false
set_option linter.unusedVariables false
set_option linter.constructorNameAsVariable false
namespace Go.Proofs
open Go.Vc
set_option maxRecDepth 10000

theorem sizeF_byt' {n : Int} (h : 0 ≤ n) : byt (sizeF n) := by
  unfold sizeF
  have c : ∀ (f : Int) (k : Nat), 0 ≤ f ∧ f ≤ 255 → byt (f :: lowF k n) := fun f k hf x hx => by
    rcases List.mem_cons.1 hx with rfl | hx
    · exact hf
    · exact lowF_byt k n x hx
  split
  · intro x hx; simp at hx; omega
  · split
    · exact c _ _ (by omega)
    · split
      · exact c _ _ (by omega)
      · exact c _ _ (by omega)
theorem flat_byt {α : Type} {f : α → List Int} {l : List α} (h : ∀ x ∈ l, byt (f x)) : byt (l.flatMap f) := fun b hb => by
  obtain ⟨x, hx, hb⟩ := List.mem_flatMap.1 hb
  exact h x hx b hb
theorem encF_byt {t : TxV} (h : t.Ok) : byt (encF t) := by
  unfold encF
  refine byt_app (byt_app (byt_app (byt_app (byt_app (lowF_byt _ _) (sizeF_byt' (by omega))) (flat_byt fun x hx => ?_)) (sizeF_byt' (by omega))) (flat_byt fun y hy => ?_)) (lowF_byt _ _)
  · have hx := h.ins x hx
    exact byt_app (byt_app (byt_app hx.prev (lowF_byt _ _)) (byt_app (sizeF_byt' (by omega)) hx.script)) (lowF_byt _ _)
  · exact byt_app (lowF_byt _ _) (byt_app (sizeF_byt' (by omega)) (h.outs y hy).script)
theorem LS.txR {w wj : World} {p4 : Nat} {t : TxV} {vi vo : Value} {li : List TxI} {lo : List TxO} (h : LS w wj p4 t vi vo li lo) : TxR wj vi vo { t with ins := li, outs := lo } := by
  obtain ⟨cs, a1, a2, a3⟩ := h.ins
  obtain ⟨ds, b1, b2, b3⟩ := h.outs
  obtain ⟨q, c, f1, f2⟩ := a2.is
  obtain ⟨q', c', g1, g2⟩ := b2.is
  have a4 := a2.mx
  have b4 := b2.mx
  refine ⟨⟨cs, a1, a2.sz, a2.rd, ⟨q, c, by rw [f1, a1], ?_⟩, ?_, fun i x y => ?_⟩, ⟨ds, b1, b2.sz, b2.rd, ⟨q', c', by rw [g1, b1], ?_⟩, ?_, fun i x y => ?_⟩⟩
  · show li.length ≤ c; omega
  · show li.length ≤ maxLen; omega
  · obtain ⟨sv, wv, e, h1, h2⟩ := a3 i x y
    exact ⟨sv, wv, e, h1.1, h2.rd⟩
  · show lo.length ≤ c'; omega
  · show lo.length ≤ maxLen; omega
  · obtain ⟨sv, e, h1⟩ := b3 i x y
    exact ⟨sv, e, h1.1⟩
set_option maxHeartbeats 1600000 in
theorem leg_end (w : World) (p4 p8 p14 : Nat) (t : TxV) (vi vo : Value) (li : List TxI) (lo : List TxO) (kind : Int) (hk : 0 ≤ kind ∧ kind ≤ 255) (c8 : Array Value) (hc8 : c8.size = 32) (hok : ({ t with ins := li, outs := lo } : TxV).Ok) (hf : ({ t with ins := li, outs := lo } : TxV).Few 100 1000) (hlen : (encF { t with ins := li, outs := lo }).length ≤ 90000000)
    (wj : World) (tl : Env) (hP : LS w wj p4 t vi vo li lo) (h8 : wj.heap[p8]? = some (.cells c8 36 (0, 0))) (l8 : w.heap.size ≤ p8) (hW : WMid w wj p14 (.slice none 0 0) []) :
    W Try.prog (Ret fun u w' => u = .agg (bv (dblF (encF { t with ins := li, outs := lo } ++ lowF 4 kind))).toArray ∧ Ext w w') 12 4 ((3, .int .u8 kind) :: (4, .pointer (some ⟨p4, 0, none⟩)) :: (8, .pointer (some ⟨p8, 0, none⟩)) :: (14, .pointer (some ⟨p14, 0, none⟩)) :: tl) wj := by
  have d4 := hP.c4
  have r4 : rdO (some (.cells (txC t vi vo) 26 (0, 0))) 0 4 = some (txC t vi vo) := rdO_all _ _ _ _ rfl
  have hTx := hP.txR
  generalize hB : encF { t with ins := li, outs := lo } = B at hlen ⊢
  (refine W_at c12_ok ?_; refine ⟨_, rfl, ?_⟩; simp (disch := first | omega | assumption | rfl | (simp only [vcS] <;> omega) | fail) only [↓ptV_l, ↓vcA, vcB, ↓vcD, vcE, ↓reduceIte, Nat.reduceEqDiff, Nat.reduceAdd, Nat.reduceMul, Nat.reduceLeDiff, Int.reduceLE, Int.reduceLT, Int.reduceEq, Int.reduceToNat, Int.reduceAdd, Int.reduceSub, Int.reduceMul, Int.reduceNeg, reduceCtorEq, Option.bind_some, Option.map_some, List.length_cons, List.length_nil, vcM, List.getElem?_toArray, List.getElem?_cons_zero, List.getElem?_cons_succ, d4, r4])
  refine callV_ret (encode_ok wj vi vo { t with ins := li, outs := lo } hTx hok hf) ?_
  rintro u w1 hu
  rw [hB] at hu
  first | (simp (disch := first | omega | assumption | rfl | (simp only [vcS] <;> omega) | fail) only [↓ptV_l, ↓vcA, vcB, ↓vcD, vcE, ↓reduceIte, Nat.reduceEqDiff, Nat.reduceAdd, Nat.reduceMul, Nat.reduceLeDiff, Int.reduceLE, Int.reduceLT, Int.reduceEq, Int.reduceToNat, Int.reduceAdd, Int.reduceSub, Int.reduceMul, Int.reduceNeg, reduceCtorEq, Option.bind_some, Option.map_some, List.length_cons, List.length_nil, vcM, List.getElem?_toArray, List.getElem?_cons_zero, List.getElem?_cons_succ]) | skip
  have hW1 := hW.grow hu.ext
  have h81 := hu.ext.at h8 (fun h => h)
  refine callV_ret (raw_ok w1 p14 _ [] u B hW1.at' hu.own.rd (by simp; omega)) ?_
  rintro _ w2 hw2
  first | (simp (disch := first | omega | assumption | rfl | (simp only [vcS] <;> omega) | fail) only [↓ptV_l, ↓vcA, vcB, ↓vcD, vcE, ↓reduceIte, Nat.reduceEqDiff, Nat.reduceAdd, Nat.reduceMul, Nat.reduceLeDiff, Int.reduceLE, Int.reduceLT, Int.reduceEq, Int.reduceToNat, Int.reduceAdd, Int.reduceSub, Int.reduceMul, Int.reduceNeg, reduceCtorEq, Option.bind_some, Option.map_some, List.length_cons, List.length_nil, vcM, List.getElem?_toArray, List.getElem?_cons_zero, List.getElem?_cons_succ]) | skip
  obtain ⟨v2, hW2⟩ := hW1.go hw2
  have h82 := hw2.at hW1.at' h81 (by decide) (by decide)
  rw [List.nil_append] at hW2
  have wk : IntKind.u32.wrap kind = kind := by rw [wrap_u32]; omega
  (refine W_at c12_ok ?_; refine ⟨_, rfl, ?_⟩; simp (disch := first | omega | assumption | rfl | (simp only [vcS] <;> omega) | fail) only [↓ptV_l, ↓vcA, vcB, ↓vcD, vcE, ↓reduceIte, Nat.reduceEqDiff, Nat.reduceAdd, Nat.reduceMul, Nat.reduceLeDiff, Int.reduceLE, Int.reduceLT, Int.reduceEq, Int.reduceToNat, Int.reduceAdd, Int.reduceSub, Int.reduceMul, Int.reduceNeg, reduceCtorEq, Option.bind_some, Option.map_some, List.length_cons, List.length_nil, vcM, List.getElem?_toArray, List.getElem?_cons_zero, List.getElem?_cons_succ, wk])
  refine callV_ret (u32_ok w2 p14 v2 B kind hW2.at' (by omega) (by omega)) ?_
  rintro _ w3 hw3
  first | (simp (disch := first | omega | assumption | rfl | (simp only [vcS] <;> omega) | fail) only [↓ptV_l, ↓vcA, vcB, ↓vcD, vcE, ↓reduceIte, Nat.reduceEqDiff, Nat.reduceAdd, Nat.reduceMul, Nat.reduceLeDiff, Int.reduceLE, Int.reduceLT, Int.reduceEq, Int.reduceToNat, Int.reduceAdd, Int.reduceSub, Int.reduceMul, Int.reduceNeg, reduceCtorEq, Option.bind_some, Option.map_some, List.length_cons, List.length_nil, vcM, List.getElem?_toArray, List.getElem?_cons_zero, List.getElem?_cons_succ]) | skip
  obtain ⟨v3, hW3⟩ := hW2.go hw3
  have h83 := hw3.at hW2.at' h82 (by decide) (by decide)
  have hl4 := lowF_len 4 kind
  (refine W_at c12_ok ?_; refine ⟨_, rfl, ?_⟩; simp (disch := first | omega | assumption | rfl | (simp only [vcS] <;> omega) | fail) only [↓ptV_l, ↓vcA, vcB, ↓vcD, vcE, ↓reduceIte, Nat.reduceEqDiff, Nat.reduceAdd, Nat.reduceMul, Nat.reduceLeDiff, Int.reduceLE, Int.reduceLT, Int.reduceEq, Int.reduceToNat, Int.reduceAdd, Int.reduceSub, Int.reduceMul, Int.reduceNeg, reduceCtorEq, Option.bind_some, Option.map_some, List.length_cons, List.length_nil, vcM, List.getElem?_toArray, List.getElem?_cons_zero, List.getElem?_cons_succ])
  refine callV_ret (out_ok w3 p14 v3 _ hW3.at' (by rw [List.length_append]; omega)) ?_
  rintro u4 w4 ⟨o4, e4, n4⟩
  first | (simp (disch := first | omega | assumption | rfl | (simp only [vcS] <;> omega) | fail) only [↓ptV_l, ↓vcA, vcB, ↓vcD, vcE, ↓reduceIte, Nat.reduceEqDiff, Nat.reduceAdd, Nat.reduceMul, Nat.reduceLeDiff, Int.reduceLE, Int.reduceLT, Int.reduceEq, Int.reduceToNat, Int.reduceAdd, Int.reduceSub, Int.reduceMul, Int.reduceNeg, reduceCtorEq, Option.bind_some, Option.map_some, List.length_cons, List.length_nil, vcM, List.getElem?_toArray, List.getElem?_cons_zero, List.getElem?_cons_succ]) | skip
  have hBb : byt B := by rw [← hB]; exact encF_byt hok
  refine callV_ret (double_ok w4 u4 _ o4.rd (byt_app hBb (lowF_byt _ _)) (by rw [List.length_append]; omega)) ?_
  rintro _ w5 ⟨rfl, e5⟩
  have h85 := e5.at (e4.at h83 (fun h => h)) (fun h => h)
  have s32 : (bv (dblF (B ++ lowF 4 kind))).toArray.size = 32 := by rw [bva_size, dblF_len]
  have o32 : okO (some (.cells c8 36 (0, 0))) 0 32 = True := by simp only [okO, hc8]; simp
  first | (simp (disch := first | omega | assumption | rfl | (simp only [vcS] <;> omega) | fail) only [↓ptV_l, ↓vcA, vcB, ↓vcD, vcE, ↓reduceIte, Nat.reduceEqDiff, Nat.reduceAdd, Nat.reduceMul, Nat.reduceLeDiff, Int.reduceLE, Int.reduceLT, Int.reduceEq, Int.reduceToNat, Int.reduceAdd, Int.reduceSub, Int.reduceMul, Int.reduceNeg, reduceCtorEq, Option.bind_some, Option.map_some, List.length_cons, List.length_nil, vcM, List.getElem?_toArray, List.getElem?_cons_zero, List.getElem?_cons_succ, h85, s32, o32]) | skip
  refine ⟨bv_flat _, ?_⟩
  have hk8 : Keep (fun g => g = p8) w5 (w5.putN p8 0 (bv (dblF (B ++ lowF 4 kind))).toArray) := (Keep.refl _ w5).putN _ fun _ => rfl
  have d9 : (w5.putN p8 0 (bv (dblF (B ++ lowF 4 kind))).toArray).heap[p8]? = some (.cells (bv (dblF (B ++ lowF 4 kind))).toArray 36 (0, 0)) := by
    rw [heap_putN_eq h85, splice_all (by rw [hc8, s32])]
  have hr32 : rdO (some (.cells (bv (dblF (B ++ lowF 4 kind))).toArray 36 (0, 0))) 0 32 = some (bv (dblF (B ++ lowF 4 kind))).toArray := rdO_all _ _ _ _ s32
  (refine W_at c12_ok ?_; refine ⟨_, rfl, ?_⟩; simp (disch := first | omega | assumption | rfl | (simp only [vcS] <;> omega) | fail) only [↓ptV_l, ↓vcA, vcB, ↓vcD, vcE, ↓reduceIte, Nat.reduceEqDiff, Nat.reduceAdd, Nat.reduceMul, Nat.reduceLeDiff, Int.reduceLE, Int.reduceLT, Int.reduceEq, Int.reduceToNat, Int.reduceAdd, Int.reduceSub, Int.reduceMul, Int.reduceNeg, reduceCtorEq, Option.bind_some, Option.map_some, List.length_cons, List.length_nil, vcM, List.getElem?_toArray, List.getElem?_cons_zero, List.getElem?_cons_succ, d9, hr32, Ret_returned])
  exact ((hW3.ext.ext e4).ext e5).trans hk8 fun g hg e => by omega
end Go.Proofs
namespace Go.Proofs
open Go.Vc
set_option maxRecDepth 10000

theorem ListN.drop {α : Type} {R : Nat → World → Array Value → α → Prop} {T size m n c : Nat} {w : World} {q : Option Addr} {l : List α} (h : ListN R T size m w (.slice q n c) l) {k : Nat} (hk : k ≤ l.length) : ListN R T size m w (.slice (advA size q c k) (n - k) (c - k)) (l.drop k) := by
  obtain ⟨cs, h1, h2, h3⟩ := h
  obtain ⟨q', c', e, hc, h4⟩ := h2.drop (l := k) (by omega)
  injection e with e1 e2 e3
  subst e1 e3
  rw [← e2] at h4
  refine ⟨cs.drop k, by simp [h1], h4, fun i a b => ?_⟩
  rw [List.length_drop] at a b
  rw [List.getElem_drop, List.getElem_drop]
  exact h3 (k + i) (by omega) (by omega)
set_option maxHeartbeats 1600000 in
theorem leg_alone (w : World) (p4 p8 : Nat) (t : TxV) (vi vo : Value) (li : List TxI) (lo : List TxO) (i : Nat) (hi : i < li.length) (hin : li.length ≤ 100000) (kind : Int) (hk : 0 ≤ kind ∧ kind ≤ 255) (al : Bool) (c8 : Array Value) (hc8 : c8.size = 32)
    (hok : ∀ l, (l = li ∨ l = (li.drop i).take 1) → ({ t with ins := l, outs := lo } : TxV).Ok ∧ ({ t with ins := l, outs := lo } : TxV).Few 100 1000 ∧ (encF { t with ins := l, outs := lo }).length ≤ 90000000)
    (wj : World) (tl : Env) (hP : LS w wj p4 t vi vo li lo) (h8 : wj.heap[p8]? = some (.cells c8 36 (0, 0))) (l8 : w.heap.size ≤ p8) :
    W Try.prog (Ret fun u w' => u = .agg (bv (dblF (encF { t with ins := if al then (li.drop i).take 1 else li, outs := lo } ++ lowF 4 kind))).toArray ∧ Ext w w') 12 8 ((1, .int .i64 (i : Nat)) :: (3, .int .u8 kind) :: (4, .pointer (some ⟨p4, 0, none⟩)) :: (8, .pointer (some ⟨p8, 0, none⟩)) :: (10, .bool al) :: tl) wj := by
  have fin : ∀ wj vi l tl, (l = li ∨ l = (li.drop i).take 1) → LS w wj p4 t vi vo l lo → wj.heap[p8]? = some (.cells c8 36 (0, 0)) → W Try.prog (Ret fun u w' => u = .agg (bv (dblF (encF { t with ins := l, outs := lo } ++ lowF 4 kind))).toArray ∧ Ext w w') 12 4 ((3, .int .u8 kind) :: (4, .pointer (some ⟨p4, 0, none⟩)) :: (8, .pointer (some ⟨p8, 0, none⟩)) :: (14, .pointer (some ⟨wj.heap.size, 0, none⟩)) :: tl) (wj.alloc (.cells (zc [(1, .slice none 0 0)]) 60)) := by
    intro wj vi l tl hl hP h8
    obtain ⟨a1, a2, a3⟩ := hok l hl
    have hE : Ext wj (wj.alloc (.cells (zc [(1, .slice none 0 0)]) 60)) := (Keep.refl _ wj).alloc _
    exact leg_end w p4 p8 wj.heap.size t vi vo l lo kind hk c8 hc8 a1 a2 a3 _ tl (hP.keep hE) (hE.at h8 (fun h => h)) l8 ⟨⟨heap_new _ _ _ rfl, Own1.nil _⟩, hP.ext.ext hE, hP.ext.size, fun g hg => by cases hg⟩
  cases al with
  | false =>
    (refine W_at c12_ok ?_; refine ⟨_, rfl, ?_⟩; simp (disch := first | omega | assumption | rfl | (simp only [vcS] <;> omega) | fail) only [↓ptV_l, ↓vcA, vcB, ↓vcD, vcE, ↓reduceIte, Nat.reduceEqDiff, Nat.reduceAdd, Nat.reduceMul, Nat.reduceLeDiff, Int.reduceLE, Int.reduceLT, Int.reduceEq, Int.reduceToNat, Int.reduceAdd, Int.reduceSub, Int.reduceMul, Int.reduceNeg, reduceCtorEq, Option.bind_some, Option.map_some, List.length_cons, List.length_nil, vcM, List.getElem?_toArray, List.getElem?_cons_zero, List.getElem?_cons_succ])
    (refine W_at c12_ok ?_; refine ⟨_, rfl, ?_⟩; simp (disch := first | omega | assumption | rfl | (simp only [vcS] <;> omega) | fail) only [↓ptV_l, ↓vcA, vcB, ↓vcD, vcE, ↓reduceIte, Nat.reduceEqDiff, Nat.reduceAdd, Nat.reduceMul, Nat.reduceLeDiff, Int.reduceLE, Int.reduceLT, Int.reduceEq, Int.reduceToNat, Int.reduceAdd, Int.reduceSub, Int.reduceMul, Int.reduceNeg, reduceCtorEq, Option.bind_some, Option.map_some, List.length_cons, List.length_nil, vcM, List.getElem?_toArray, List.getElem?_cons_zero, List.getElem?_cons_succ])
    (refine W_at c12_ok ?_; refine ⟨_, rfl, ?_⟩; simp (disch := first | omega | assumption | rfl | (simp only [vcS] <;> omega) | fail) only [↓ptV_l, ↓vcA, vcB, ↓vcD, vcE, ↓reduceIte, Nat.reduceEqDiff, Nat.reduceAdd, Nat.reduceMul, Nat.reduceLeDiff, Int.reduceLE, Int.reduceLT, Int.reduceEq, Int.reduceToNat, Int.reduceAdd, Int.reduceSub, Int.reduceMul, Int.reduceNeg, reduceCtorEq, Option.bind_some, Option.map_some, List.length_cons, List.length_nil, vcM, List.getElem?_toArray, List.getElem?_cons_zero, List.getElem?_cons_succ])
    exact fin wj vi li _ (.inl rfl) hP h8
  | true =>
    have d4 := hP.c4
    obtain ⟨q, c, rfl, hc⟩ := ListN.is hP.ins
    have wi : IntKind.i64.wrap ((i : Int) + 1) = ((i + 1 : Nat) : Int) := wrap_i64 (by omega) (by omega)
    have k1 : (0 : Int) ≤ (i : Nat) ∧ ((i : Nat) : Int) ≤ ((i + 1 : Nat) : Int) ∧ ((i + 1 : Nat) : Int) ≤ (c : Nat) := by omega
    have hL := ListN.drop (ListN.take hP.ins (k := i + 1) (by omega)) (k := i) (by rw [List.length_take]; omega)
    have he : (li.take (i + 1)).drop i = (li.drop i).take 1 := by rw [List.drop_take, Nat.add_sub_cancel_left]
    rw [he] at hL
    obtain ⟨hw, hP2⟩ := hP.put1 hL
    have h82 : (wj.setCell ⟨p4, 1, none⟩ (.slice (advA 36 q c i) (i + 1 - i) (c - i))).heap[p8]? = some (.cells c8 36 (0, 0)) := ((Keep.refl (fun y => y = p4) wj).setCell _ fun _ => rfl).at h8 fun e => by subst e; rw [d4] at h8; cases h8
    (refine W_at c12_ok ?_; refine ⟨_, rfl, ?_⟩; simp (disch := first | omega | assumption | rfl | (simp only [vcS] <;> omega) | fail) only [↓ptV_l, ↓vcA, vcB, ↓vcD, vcE, ↓reduceIte, Nat.reduceEqDiff, Nat.reduceAdd, Nat.reduceMul, Nat.reduceLeDiff, Int.reduceLE, Int.reduceLT, Int.reduceEq, Int.reduceToNat, Int.reduceAdd, Int.reduceSub, Int.reduceMul, Int.reduceNeg, reduceCtorEq, Option.bind_some, Option.map_some, List.length_cons, List.length_nil, vcM, List.getElem?_toArray, List.getElem?_cons_zero, List.getElem?_cons_succ])
    (refine W_at c12_ok ?_; refine ⟨_, rfl, ?_⟩; simp (disch := first | omega | assumption | rfl | (simp only [vcS] <;> omega) | fail) only [↓ptV_l, ↓vcA, vcB, ↓vcD, vcE, ↓reduceIte, Nat.reduceEqDiff, Nat.reduceAdd, Nat.reduceMul, Nat.reduceLeDiff, Int.reduceLE, Int.reduceLT, Int.reduceEq, Int.reduceToNat, Int.reduceAdd, Int.reduceSub, Int.reduceMul, Int.reduceNeg, reduceCtorEq, Option.bind_some, Option.map_some, List.length_cons, List.length_nil, vcM, List.getElem?_toArray, List.getElem?_cons_zero, List.getElem?_cons_succ])
    have k2 : (0 : Int) ≤ ((i + 1 : Nat) : Int) := by omega
    (refine W_at c12_ok ?_; refine ⟨_, rfl, ?_⟩; simp (disch := first | omega | assumption | rfl | (simp only [vcS] <;> omega) | fail) only [↓ptV_l, ↓vcA, vcB, ↓vcD, vcE, ↓reduceIte, Nat.reduceEqDiff, Nat.reduceAdd, Nat.reduceMul, Nat.reduceLeDiff, Int.reduceLE, Int.reduceLT, Int.reduceEq, Int.reduceToNat, Int.reduceAdd, Int.reduceSub, Int.reduceMul, Int.reduceNeg, reduceCtorEq, Option.bind_some, Option.map_some, List.length_cons, List.length_nil, vcM, List.getElem?_toArray, List.getElem?_cons_zero, List.getElem?_cons_succ, d4, txC_1, wi, k1, k2, Int.toNat_natCast])
    refine ⟨hw, ?_⟩
    generalize World.setCell _ _ _ = w9 at hP2 h82 ⊢
    (refine W_at c12_ok ?_; refine ⟨_, rfl, ?_⟩; simp (disch := first | omega | assumption | rfl | (simp only [vcS] <;> omega) | fail) only [↓ptV_l, ↓vcA, vcB, ↓vcD, vcE, ↓reduceIte, Nat.reduceEqDiff, Nat.reduceAdd, Nat.reduceMul, Nat.reduceLeDiff, Int.reduceLE, Int.reduceLT, Int.reduceEq, Int.reduceToNat, Int.reduceAdd, Int.reduceSub, Int.reduceMul, Int.reduceNeg, reduceCtorEq, Option.bind_some, Option.map_some, List.length_cons, List.length_nil, vcM, List.getElem?_toArray, List.getElem?_cons_zero, List.getElem?_cons_succ])
    exact fin _ _ _ _ (.inr rfl) hP2 h82
end Go.Proofs
namespace Go.Proofs
open Go.Vc
set_option maxRecDepth 10000

theorem splice2 (a b : Value) : ∀ (k : Nat) (l : List Value), k + 2 ≤ l.length → l.take k ++ (a :: b :: l.drop (k + 2)) = (l.set k a).set (k + 1) b
  | 0, x :: y :: l, _ => rfl
  | k + 1, x :: l, h => by
    have ih := splice2 a b k l (by simpa using h)
    simp only [List.take_succ_cons, List.cons_append, List.set_cons_succ, List.drop_succ_cons]
    rw [← ih]
  | 0, [], h => by simp at h
  | 0, [_], h => by simp at h
  | _ + 1, [], h => by simp at h
theorem spliceA_2 (cur : Array Value) (k : Nat) (a b : Value) (h : k + 2 ≤ cur.size) : spliceA cur k #[a, b] = (cur.setIfInBounds k a).setIfInBounds (k + 1) b := by
  apply Array.ext'
  have := splice2 a b k cur.toList (by simpa using h)
  simp only [spliceA, Array.toList_setIfInBounds]
  rw [← this]
  simp
/-- Two cells at once, or one after the other. -/
theorem put2_ext {w : World} {g k : Nat} {cur : Array Value} {T : TypeId} (hg : w.heap[g]? = some (.cells cur T (0, 0))) (a b : Value) (hk : k + 2 ≤ cur.size) : Ext ((w.setCell ⟨g, k, none⟩ a).setCell ⟨g, k + 1, none⟩ b) (w.putN g k #[a, b]) := by
  have ka : Keep (fun y => y = g) w (w.setCell ⟨g, k, none⟩ a) := (Keep.refl _ w).setCell _ fun _ => rfl
  have k1 : Keep (fun y => y = g) w ((w.setCell ⟨g, k, none⟩ a).setCell ⟨g, k + 1, none⟩ b) := ka.setCell _ fun _ => rfl
  have k2 : Keep (fun y => y = g) w (w.putN g k #[a, b]) := (Keep.refl _ w).putN _ fun _ => rfl
  have h1 : (w.setCell ⟨g, k, none⟩ a).heap[g]? = some (.cells (cur.setIfInBounds k a) T (0, 0)) := heap_setCell_eq hg
  have h2 : ((w.setCell ⟨g, k, none⟩ a).setCell ⟨g, k + 1, none⟩ b).heap[g]? = some (.cells ((cur.setIfInBounds k a).setIfInBounds (k + 1) b) T (0, 0)) := heap_setCell_eq h1
  have h3 : (w.putN g k #[a, b]).heap[g]? = some (.cells (spliceA cur k #[a, b]) T (0, 0)) := heap_putN_eq hg
  have hs : ((w.setCell ⟨g, k, none⟩ a).setCell ⟨g, k + 1, none⟩ b).heap.size = w.heap.size := by simp
  refine ⟨k2.os.trans k1.os.symm, k2.tape.trans k1.tape.symm, k2.output.trans k1.output.symm, by rw [hs]; exact k2.size, fun y hy _ => ?_⟩
  rw [hs] at hy
  by_cases hyg : y = g
  · subst hyg
    rw [h3, h2, spliceA_2 _ _ _ _ hk]
  · rw [k2.block y hy hyg, k1.block y hy hyg]
section
variable {w wj : World} {p4 : Nat} {t : TxV} {vi vo : Value} {li : List TxI} {lo : List TxO}
theorem LS.setO1 (h : LS w wj p4 t vi vo li lo) {g o n cap i j : Nat} (he : vo = .slice (some ⟨g, o, none⟩) n cap) (hi : i < lo.length) (hj : j < 2) (val : Value) (x' : TxO)
    (hnew : ∀ w' c, Keep (fun y => y = g) wj w' → Far w.heap.size wj (fun y => y = g) → OQ w.heap.size wj c lo[i] → OQ w.heap.size w' (c.setIfInBounds j val) x') :
    wr1 wj g (o + i * 2 + j) ∧ LS w (wj.setCell ⟨g, o + i * 2 + j, none⟩ val) p4 t vi vo li (lo.set i x') := by
  have hk : Keep (fun y => y = g) wj (wj.setCell ⟨g, o + i * 2 + j, none⟩ val) := (Keep.refl _ wj).setCell _ fun _ => rfl
  obtain ⟨hm, cur, hg⟩ := ListN.blkT h.outs (g := g) (by rw [he]; rfl)
  have hF := Far.one hg (by decide) (by decide) hm
  have n26 := ne_T (T' := 26) hg (by decide)
  have n50 := ne_T (T' := 50) hg (by decide)
  obtain ⟨hw, hL⟩ := ListN.setc h.outs he hi hj val x' (fun c hc => hnew _ c hk hF hc) fun c x hR => OQ.keepT hR hk hF
  exact ⟨hw, h.ext.trans hk fun y hy e => by omega, hk.at h.c4 fun e => n26 _ (e ▸ h.c4), ListN.keepT h.ins hk (fun g' hg' c => by subst hg'; exact n50 c) fun _ _ hR => IQ.keepT hR hk hF, hL, h.l4⟩
/-- An output becomes the empty one. -/
theorem LS.blank (h : LS w wj p4 t vi vo li lo) {g o n cap i : Nat} (he : vo = .slice (some ⟨g, o, none⟩) n cap) (hi : i < lo.length) (hO : ∃ cur, wj.heap[g]? = some (.cells cur 54 (0, 0)) ∧ o + i * 2 + 2 ≤ cur.size) :
    LS w (wj.putN g (o + i * 2) #[.int .i64 (-1), .slice none 0 0]) p4 t vi vo li (lo.set i ⟨-1, []⟩) := by
  obtain ⟨cur, hg, hs⟩ := hO
  obtain ⟨_, h1⟩ := h.setO1 (j := 0) he hi (by decide) (.int .i64 (-1)) ⟨-1, lo[i].script⟩ fun w' c hk hF hQ => by
    obtain ⟨sv, rfl, h2⟩ := hQ
    exact ⟨sv, rfl, h2.keepT hk fun g hg => ⟨(hF g hg).1, (hF g hg).2.1⟩⟩
  have hil : i < (lo.set i (⟨-1, lo[i].script⟩ : TxO)).length := by rw [List.length_set]; exact hi
  obtain ⟨_, h2⟩ := h1.setO1 (j := 1) he hil (by decide) (.slice none 0 0) ⟨-1, []⟩ fun w' c hk hF hQ => by
    rw [List.getElem_set_self] at hQ
    obtain ⟨sv, rfl, h2⟩ := hQ
    exact ⟨.slice none 0 0, rfl, SR.nil _ _⟩
  rw [List.set_set] at h2
  exact h2.keep (put2_ext hg _ _ hs)
end
end Go.Proofs
namespace Go.Proofs
open Go.Vc
set_option maxRecDepth 10000

def blankTo (j : Nat) (l : List TxO) : List TxO := l.mapIdx fun a y => if a < j then ⟨-1, []⟩ else y
theorem blankTo_len (j : Nat) (l : List TxO) : (blankTo j l).length = l.length := by simp [blankTo]
theorem blankTo_0 (l : List TxO) : blankTo 0 l = l := by
  refine List.ext_getElem (by simp [blankTo]) fun a b c => ?_
  simp [blankTo]
theorem blankTo_succ (j : Nat) (l : List TxO) : (blankTo j l).set j ⟨-1, []⟩ = blankTo (j + 1) l := by
  refine List.ext_getElem (by simp [blankTo]) fun a b c => ?_
  by_cases h : j = a
  · subst h
    rw [List.getElem_set_self]
    simp [blankTo]
  · rw [List.getElem_set_ne h]
    simp only [blankTo, List.getElem_mapIdx]
    by_cases h2 : a < j
    · rw [if_pos h2, if_pos (by omega)]
    · rw [if_neg h2, if_neg (by omega)]
set_option maxHeartbeats 3200000 in
theorem leg_blank (Q : Ending → World → Prop) (w : World) (p4 p8 : Nat) (t : TxV) (vi vo : Value) (li : List TxI) (lo : List TxO) (i : Nat) (hi : i < lo.length) (hln : lo.length ≤ 100000) (kind : Int) (al : Bool) (c8 : Array Value)
    (hdone : ∀ wj tl, LS w wj p4 t vi vo li (blankTo i lo) → wj.heap[p8]? = some (.cells c8 36 (0, 0)) → W Try.prog Q 12 8 ((1, .int .i64 (i : Nat)) :: (3, .int .u8 kind) :: (4, .pointer (some ⟨p4, 0, none⟩)) :: (8, .pointer (some ⟨p8, 0, none⟩)) :: (10, .bool al) :: tl) wj) :
    ∀ (k j : Nat) (wj : World) (tl : Env), k + j = i → LS w wj p4 t vi vo li (blankTo j lo) → wj.heap[p8]? = some (.cells c8 36 (0, 0)) →
      W Try.prog Q 12 15 ((1, .int .i64 (i : Nat)) :: (3, .int .u8 kind) :: (4, .pointer (some ⟨p4, 0, none⟩)) :: (8, .pointer (some ⟨p8, 0, none⟩)) :: (10, .bool al) :: (85, .int .i64 (i : Nat)) :: (86, .int .i64 (j : Nat)) :: tl) wj := by
  intro k
  induction k with
  | zero =>
    intro j wj tl hj hP h8
    have hil : ¬ ((j : Int) < (i : Nat)) := by omega
    obtain rfl : j = i := by omega
    (refine W_at c12_ok ?_; refine ⟨_, rfl, ?_⟩; simp (disch := first | omega | assumption | rfl | (simp only [vcS] <;> omega) | fail) only [↓ptV_l, ↓vcA, vcB, ↓vcD, vcE, ↓reduceIte, Nat.reduceEqDiff, Nat.reduceAdd, Nat.reduceMul, Nat.reduceLeDiff, Int.reduceLE, Int.reduceLT, Int.reduceEq, Int.reduceToNat, Int.reduceAdd, Int.reduceSub, Int.reduceMul, Int.reduceNeg, reduceCtorEq, Option.bind_some, Option.map_some, List.length_cons, List.length_nil, vcM, List.getElem?_toArray, List.getElem?_cons_zero, List.getElem?_cons_succ, hil])
    (refine W_at c12_ok ?_; refine ⟨_, rfl, ?_⟩; simp (disch := first | omega | assumption | rfl | (simp only [vcS] <;> omega) | fail) only [↓ptV_l, ↓vcA, vcB, ↓vcD, vcE, ↓reduceIte, Nat.reduceEqDiff, Nat.reduceAdd, Nat.reduceMul, Nat.reduceLeDiff, Int.reduceLE, Int.reduceLT, Int.reduceEq, Int.reduceToNat, Int.reduceAdd, Int.reduceSub, Int.reduceMul, Int.reduceNeg, reduceCtorEq, Option.bind_some, Option.map_some, List.length_cons, List.length_nil, vcM, List.getElem?_toArray, List.getElem?_cons_zero, List.getElem?_cons_succ])
    exact hdone wj _ hP h8
  | succ k ih =>
    intro j wj tl hj hP h8
    have hil : ((j : Int) < (i : Nat)) := by omega
    have hl := blankTo_len j lo
    have c3 : 0 ≤ (j : Int) ∧ (j : Int) < ((blankTo j lo).length : Nat) := by omega
    have wi : IntKind.i64.wrap ((j : Int) + 1) = ((j + 1 : Nat) : Int) := wrap_i64 (by omega) (by omega)
    have d4 := hP.c4
    obtain ⟨g, o, cap, c, hvo, hrd, _, hm, cur, hg⟩ := ListN.at hP.outs (i := j) (by omega)
    have hsz : o + j * 2 + 2 ≤ cur.size := by
      rw [hg] at hrd
      simp only [rdO] at hrd
      split at hrd
      · assumption
      · cases hrd
    have hP2 := hP.blank hvo (i := j) (by omega) ⟨cur, hg, hsz⟩
    rw [blankTo_succ] at hP2
    have n36 := ne_T (T' := 36) hg (by decide)
    have h82 : (wj.putN g (o + j * 2) #[.int .i64 (-1), .slice none 0 0]).heap[p8]? = some (.cells c8 36 (0, 0)) := ((Keep.refl (fun y => y = g) wj).putN _ fun _ => rfl).at h8 fun e => n36 _ (e ▸ h8)
    have ho : okO (some (.cells cur 54 (0, 0))) (o + j * 2) 2 = True := by simp only [okO]; simp [hsz]
    have hz : #[Value.int .i64 (-1)] ++ zc [(1, .slice none 0 0)] = #[.int .i64 (-1), .slice none 0 0] := rfl
    have hf : flat #[Value.int .i64 (-1), .slice none 0 0] := by rw [flat_2]; exact ⟨rfl, rfl⟩
    have hs2 : (#[Value.int .i64 (-1), .slice none 0 0] : Array Value).size = 2 := rfl
    (refine W_at c12_ok ?_; refine ⟨_, rfl, ?_⟩; simp (disch := first | omega | assumption | rfl | (simp only [vcS] <;> omega) | fail) only [↓ptV_l, ↓vcA, vcB, ↓vcD, vcE, ↓reduceIte, Nat.reduceEqDiff, Nat.reduceAdd, Nat.reduceMul, Nat.reduceLeDiff, Int.reduceLE, Int.reduceLT, Int.reduceEq, Int.reduceToNat, Int.reduceAdd, Int.reduceSub, Int.reduceMul, Int.reduceNeg, reduceCtorEq, Option.bind_some, Option.map_some, List.length_cons, List.length_nil, vcM, List.getElem?_toArray, List.getElem?_cons_zero, List.getElem?_cons_succ, hil])
    (refine W_at c12_ok ?_; refine ⟨_, rfl, ?_⟩; simp (disch := first | omega | assumption | rfl | (simp only [vcS] <;> omega) | fail) only [↓ptV_l, ↓vcA, vcB, ↓vcD, vcE, ↓reduceIte, Nat.reduceEqDiff, Nat.reduceAdd, Nat.reduceMul, Nat.reduceLeDiff, Int.reduceLE, Int.reduceLT, Int.reduceEq, Int.reduceToNat, Int.reduceAdd, Int.reduceSub, Int.reduceMul, Int.reduceNeg, reduceCtorEq, Option.bind_some, Option.map_some, List.length_cons, List.length_nil, vcM, List.getElem?_toArray, List.getElem?_cons_zero, List.getElem?_cons_succ])
    (refine W_at c12_ok ?_; refine ⟨_, rfl, ?_⟩; simp (disch := first | omega | assumption | rfl | (simp only [vcS] <;> omega) | fail) only [↓ptV_l, ↓vcA, vcB, ↓vcD, vcE, ↓reduceIte, Nat.reduceEqDiff, Nat.reduceAdd, Nat.reduceMul, Nat.reduceLeDiff, Int.reduceLE, Int.reduceLT, Int.reduceEq, Int.reduceToNat, Int.reduceAdd, Int.reduceSub, Int.reduceMul, Int.reduceNeg, reduceCtorEq, Option.bind_some, Option.map_some, List.length_cons, List.length_nil, vcM, List.getElem?_toArray, List.getElem?_cons_zero, List.getElem?_cons_succ])
    (refine W_at c12_ok ?_; refine ⟨_, rfl, ?_⟩; simp (disch := first | omega | assumption | rfl | (simp only [vcS] <;> omega) | fail) only [↓ptV_l, ↓vcA, vcB, ↓vcD, vcE, ↓reduceIte, Nat.reduceEqDiff, Nat.reduceAdd, Nat.reduceMul, Nat.reduceLeDiff, Int.reduceLE, Int.reduceLT, Int.reduceEq, Int.reduceToNat, Int.reduceAdd, Int.reduceSub, Int.reduceMul, Int.reduceNeg, reduceCtorEq, Option.bind_some, Option.map_some, List.length_cons, List.length_nil, vcM, List.getElem?_toArray, List.getElem?_cons_zero, List.getElem?_cons_succ, d4, txC_2, hvo, c3, Int.toNat_natCast, hz, hg, ho, hf, hs2])
    (refine W_at c12_ok ?_; refine ⟨_, rfl, ?_⟩; simp (disch := first | omega | assumption | rfl | (simp only [vcS] <;> omega) | fail) only [↓ptV_l, ↓vcA, vcB, ↓vcD, vcE, ↓reduceIte, Nat.reduceEqDiff, Nat.reduceAdd, Nat.reduceMul, Nat.reduceLeDiff, Int.reduceLE, Int.reduceLT, Int.reduceEq, Int.reduceToNat, Int.reduceAdd, Int.reduceSub, Int.reduceMul, Int.reduceNeg, reduceCtorEq, Option.bind_some, Option.map_some, List.length_cons, List.length_nil, vcM, List.getElem?_toArray, List.getElem?_cons_zero, List.getElem?_cons_succ, wi])
    (refine W_at c12_ok ?_; refine ⟨_, rfl, ?_⟩; simp (disch := first | omega | assumption | rfl | (simp only [vcS] <;> omega) | fail) only [↓ptV_l, ↓vcA, vcB, ↓vcD, vcE, ↓reduceIte, Nat.reduceEqDiff, Nat.reduceAdd, Nat.reduceMul, Nat.reduceLeDiff, Int.reduceLE, Int.reduceLT, Int.reduceEq, Int.reduceToNat, Int.reduceAdd, Int.reduceSub, Int.reduceMul, Int.reduceNeg, reduceCtorEq, Option.bind_some, Option.map_some, List.length_cons, List.length_nil, vcM, List.getElem?_toArray, List.getElem?_cons_zero, List.getElem?_cons_succ])
    exact ih (j + 1) _ _ (by omega) hP2 h82
end Go.Proofs
namespace Go.Proofs
open Go.Vc
set_option maxRecDepth 10000

def outsL (t : TxV) (i : Nat) (o : Int) : List TxO := if o = 2 then [] else if o = 3 then blankTo i (t.outs.take (i + 1)) else t.outs
set_option maxHeartbeats 3200000 in
theorem leg_switch (w : World) (p4 p8 : Nat) (t : TxV) (vi vo : Value) (L : List TxI) (i : Nat) (hi : i < L.length) (hin : L.length ≤ 100000) (hon : t.outs.length ≤ 100000) (x : Value) (kind o : Int) (hk : 0 ≤ kind ∧ kind ≤ 255) (h3 : o = 3 → i < t.outs.length) (al : Bool) (c8 : Array Value) (hc8 : c8.size = 32)
    (hok : ∀ l, (l = L ∨ l = (L.drop i).take 1) → ({ t with ins := l, outs := outsL t i o } : TxV).Ok ∧ ({ t with ins := l, outs := outsL t i o } : TxV).Few 100 1000 ∧ (encF { t with ins := l, outs := outsL t i o }).length ≤ 90000000)
    (wj : World) (tl : Env) (hP : LS w wj p4 t vi vo L t.outs) (h8 : wj.heap[p8]? = some (.cells c8 36 (0, 0))) (l8 : w.heap.size ≤ p8) :
    W Try.prog (Ret fun u w' => u = .agg (bv (dblF (encF { t with ins := if al then (L.drop i).take 1 else L, outs := outsL t i o } ++ lowF 4 kind))).toArray ∧ Ext w w') 12 22 ((1, .int .i64 (i : Nat)) :: (2, x) :: (3, .int .u8 kind) :: (4, .pointer (some ⟨p4, 0, none⟩)) :: (8, .pointer (some ⟨p8, 0, none⟩)) :: (9, .int .u8 o) :: (10, .bool al) :: tl) wj := by
  have d4 := hP.c4
  by_cases h2 : o = 2
  · have h2' : decide (o = 2) = true := decide_eq_true h2
    have eo : outsL t i o = [] := by unfold outsL; rw [if_pos h2]
    rw [eo] at hok ⊢
    obtain ⟨hw, hP2⟩ := hP.put2 (v' := .slice none 0 0) (l' := []) (ListN.nil _ _ _ _ _)
    have h82 : (wj.setCell ⟨p4, 2, none⟩ (.slice none 0 0)).heap[p8]? = some (.cells c8 36 (0, 0)) := ((Keep.refl (fun y => y = p4) wj).setCell _ fun _ => rfl).at h8 fun e => by subst e; rw [d4] at h8; cases h8
    (refine W_at c12_ok ?_; refine ⟨_, rfl, ?_⟩; simp (disch := first | omega | assumption | rfl | (simp only [vcS] <;> omega) | fail) only [↓ptV_l, ↓vcA, vcB, ↓vcD, vcE, ↓reduceIte, Nat.reduceEqDiff, Nat.reduceAdd, Nat.reduceMul, Nat.reduceLeDiff, Int.reduceLE, Int.reduceLT, Int.reduceEq, Int.reduceToNat, Int.reduceAdd, Int.reduceSub, Int.reduceMul, Int.reduceNeg, reduceCtorEq, Option.bind_some, Option.map_some, List.length_cons, List.length_nil, vcM, List.getElem?_toArray, List.getElem?_cons_zero, List.getElem?_cons_succ])
    (refine W_at c12_ok ?_; refine ⟨_, rfl, ?_⟩; simp (disch := first | omega | assumption | rfl | (simp only [vcS] <;> omega) | fail) only [↓ptV_l, ↓vcA, vcB, ↓vcD, vcE, ↓reduceIte, Nat.reduceEqDiff, Nat.reduceAdd, Nat.reduceMul, Nat.reduceLeDiff, Int.reduceLE, Int.reduceLT, Int.reduceEq, Int.reduceToNat, Int.reduceAdd, Int.reduceSub, Int.reduceMul, Int.reduceNeg, reduceCtorEq, Option.bind_some, Option.map_some, List.length_cons, List.length_nil, vcM, List.getElem?_toArray, List.getElem?_cons_zero, List.getElem?_cons_succ, h2'])
    (refine W_at c12_ok ?_; refine ⟨_, rfl, ?_⟩; simp (disch := first | omega | assumption | rfl | (simp only [vcS] <;> omega) | fail) only [↓ptV_l, ↓vcA, vcB, ↓vcD, vcE, ↓reduceIte, Nat.reduceEqDiff, Nat.reduceAdd, Nat.reduceMul, Nat.reduceLeDiff, Int.reduceLE, Int.reduceLT, Int.reduceEq, Int.reduceToNat, Int.reduceAdd, Int.reduceSub, Int.reduceMul, Int.reduceNeg, reduceCtorEq, Option.bind_some, Option.map_some, List.length_cons, List.length_nil, vcM, List.getElem?_toArray, List.getElem?_cons_zero, List.getElem?_cons_succ])
    (refine W_at c12_ok ?_; refine ⟨_, rfl, ?_⟩; simp (disch := first | omega | assumption | rfl | (simp only [vcS] <;> omega) | fail) only [↓ptV_l, ↓vcA, vcB, ↓vcD, vcE, ↓reduceIte, Nat.reduceEqDiff, Nat.reduceAdd, Nat.reduceMul, Nat.reduceLeDiff, Int.reduceLE, Int.reduceLT, Int.reduceEq, Int.reduceToNat, Int.reduceAdd, Int.reduceSub, Int.reduceMul, Int.reduceNeg, reduceCtorEq, Option.bind_some, Option.map_some, List.length_cons, List.length_nil, vcM, List.getElem?_toArray, List.getElem?_cons_zero, List.getElem?_cons_succ])
    refine ⟨hw, ?_⟩
    exact leg_alone w p4 p8 t vi _ L [] i hi hin kind hk al c8 hc8 hok _ _ hP2 h82 l8
  · have h2' : decide (o = 2) = false := decide_eq_false h2
    by_cases h3' : o = 3
    · have h3d : decide (o = 3) = true := decide_eq_true h3'
      have hio := h3 h3'
      have eo : outsL t i o = blankTo i (t.outs.take (i + 1)) := by unfold outsL; rw [if_neg h2, if_pos h3']
      rw [eo] at hok ⊢
      obtain ⟨q, c, rfl, hc⟩ := ListN.is hP.outs
      have wi : IntKind.i64.wrap ((i : Int) + 1) = ((i + 1 : Nat) : Int) := wrap_i64 (by omega) (by omega)
      have k1 : (0 : Int) ≤ ((i + 1 : Nat) : Int) ∧ ((i + 1 : Nat) : Int) ≤ (c : Nat) := by omega
      obtain ⟨hw, hP2⟩ := hP.put2 (ListN.take hP.outs (k := i + 1) (by omega))
      have h82 : (wj.setCell ⟨p4, 2, none⟩ (.slice q (i + 1) c)).heap[p8]? = some (.cells c8 36 (0, 0)) := ((Keep.refl (fun y => y = p4) wj).setCell _ fun _ => rfl).at h8 fun e => by subst e; rw [d4] at h8; cases h8
      (refine W_at c12_ok ?_; refine ⟨_, rfl, ?_⟩; simp (disch := first | omega | assumption | rfl | (simp only [vcS] <;> omega) | fail) only [↓ptV_l, ↓vcA, vcB, ↓vcD, vcE, ↓reduceIte, Nat.reduceEqDiff, Nat.reduceAdd, Nat.reduceMul, Nat.reduceLeDiff, Int.reduceLE, Int.reduceLT, Int.reduceEq, Int.reduceToNat, Int.reduceAdd, Int.reduceSub, Int.reduceMul, Int.reduceNeg, reduceCtorEq, Option.bind_some, Option.map_some, List.length_cons, List.length_nil, vcM, List.getElem?_toArray, List.getElem?_cons_zero, List.getElem?_cons_succ])
      (refine W_at c12_ok ?_; refine ⟨_, rfl, ?_⟩; simp (disch := first | omega | assumption | rfl | (simp only [vcS] <;> omega) | fail) only [↓ptV_l, ↓vcA, vcB, ↓vcD, vcE, ↓reduceIte, Nat.reduceEqDiff, Nat.reduceAdd, Nat.reduceMul, Nat.reduceLeDiff, Int.reduceLE, Int.reduceLT, Int.reduceEq, Int.reduceToNat, Int.reduceAdd, Int.reduceSub, Int.reduceMul, Int.reduceNeg, reduceCtorEq, Option.bind_some, Option.map_some, List.length_cons, List.length_nil, vcM, List.getElem?_toArray, List.getElem?_cons_zero, List.getElem?_cons_succ, h2'])
      (refine W_at c12_ok ?_; refine ⟨_, rfl, ?_⟩; simp (disch := first | omega | assumption | rfl | (simp only [vcS] <;> omega) | fail) only [↓ptV_l, ↓vcA, vcB, ↓vcD, vcE, ↓reduceIte, Nat.reduceEqDiff, Nat.reduceAdd, Nat.reduceMul, Nat.reduceLeDiff, Int.reduceLE, Int.reduceLT, Int.reduceEq, Int.reduceToNat, Int.reduceAdd, Int.reduceSub, Int.reduceMul, Int.reduceNeg, reduceCtorEq, Option.bind_some, Option.map_some, List.length_cons, List.length_nil, vcM, List.getElem?_toArray, List.getElem?_cons_zero, List.getElem?_cons_succ])
      (refine W_at c12_ok ?_; refine ⟨_, rfl, ?_⟩; simp (disch := first | omega | assumption | rfl | (simp only [vcS] <;> omega) | fail) only [↓ptV_l, ↓vcA, vcB, ↓vcD, vcE, ↓reduceIte, Nat.reduceEqDiff, Nat.reduceAdd, Nat.reduceMul, Nat.reduceLeDiff, Int.reduceLE, Int.reduceLT, Int.reduceEq, Int.reduceToNat, Int.reduceAdd, Int.reduceSub, Int.reduceMul, Int.reduceNeg, reduceCtorEq, Option.bind_some, Option.map_some, List.length_cons, List.length_nil, vcM, List.getElem?_toArray, List.getElem?_cons_zero, List.getElem?_cons_succ, h3d])
      (refine W_at c12_ok ?_; refine ⟨_, rfl, ?_⟩; simp (disch := first | omega | assumption | rfl | (simp only [vcS] <;> omega) | fail) only [↓ptV_l, ↓vcA, vcB, ↓vcD, vcE, ↓reduceIte, Nat.reduceEqDiff, Nat.reduceAdd, Nat.reduceMul, Nat.reduceLeDiff, Int.reduceLE, Int.reduceLT, Int.reduceEq, Int.reduceToNat, Int.reduceAdd, Int.reduceSub, Int.reduceMul, Int.reduceNeg, reduceCtorEq, Option.bind_some, Option.map_some, List.length_cons, List.length_nil, vcM, List.getElem?_toArray, List.getElem?_cons_zero, List.getElem?_cons_succ])
      (refine W_at c12_ok ?_; refine ⟨_, rfl, ?_⟩; simp (disch := first | omega | assumption | rfl | (simp only [vcS] <;> omega) | fail) only [↓ptV_l, ↓vcA, vcB, ↓vcD, vcE, ↓reduceIte, Nat.reduceEqDiff, Nat.reduceAdd, Nat.reduceMul, Nat.reduceLeDiff, Int.reduceLE, Int.reduceLT, Int.reduceEq, Int.reduceToNat, Int.reduceAdd, Int.reduceSub, Int.reduceMul, Int.reduceNeg, reduceCtorEq, Option.bind_some, Option.map_some, List.length_cons, List.length_nil, vcM, List.getElem?_toArray, List.getElem?_cons_zero, List.getElem?_cons_succ, d4, txC_2, wi, k1, Int.toNat_natCast, advA_0, Nat.sub_zero])
      refine ⟨hw, ?_⟩
      generalize World.setCell _ _ _ = w2 at hP2 h82 ⊢
      (refine W_at c12_ok ?_; refine ⟨_, rfl, ?_⟩; simp (disch := first | omega | assumption | rfl | (simp only [vcS] <;> omega) | fail) only [↓ptV_l, ↓vcA, vcB, ↓vcD, vcE, ↓reduceIte, Nat.reduceEqDiff, Nat.reduceAdd, Nat.reduceMul, Nat.reduceLeDiff, Int.reduceLE, Int.reduceLT, Int.reduceEq, Int.reduceToNat, Int.reduceAdd, Int.reduceSub, Int.reduceMul, Int.reduceNeg, reduceCtorEq, Option.bind_some, Option.map_some, List.length_cons, List.length_nil, vcM, List.getElem?_toArray, List.getElem?_cons_zero, List.getElem?_cons_succ])
      refine leg_blank _ w p4 p8 t vi _ L (t.outs.take (i + 1)) i (by rw [List.length_take]; omega) (by rw [List.length_take]; omega) kind al c8 (fun wz tlz hz h8z => ?_) i 0 w2 _ (by omega) (by rw [blankTo_0]; exact hP2) h82
      exact leg_alone w p4 p8 t vi _ L _ i hi hin kind hk al c8 hc8 hok _ _ hz h8z l8
    · have h3d : decide (o = 3) = false := decide_eq_false h3'
      have eo : outsL t i o = t.outs := by unfold outsL; rw [if_neg h2, if_neg h3']
      rw [eo] at hok ⊢
      (refine W_at c12_ok ?_; refine ⟨_, rfl, ?_⟩; simp (disch := first | omega | assumption | rfl | (simp only [vcS] <;> omega) | fail) only [↓ptV_l, ↓vcA, vcB, ↓vcD, vcE, ↓reduceIte, Nat.reduceEqDiff, Nat.reduceAdd, Nat.reduceMul, Nat.reduceLeDiff, Int.reduceLE, Int.reduceLT, Int.reduceEq, Int.reduceToNat, Int.reduceAdd, Int.reduceSub, Int.reduceMul, Int.reduceNeg, reduceCtorEq, Option.bind_some, Option.map_some, List.length_cons, List.length_nil, vcM, List.getElem?_toArray, List.getElem?_cons_zero, List.getElem?_cons_succ])
      (refine W_at c12_ok ?_; refine ⟨_, rfl, ?_⟩; simp (disch := first | omega | assumption | rfl | (simp only [vcS] <;> omega) | fail) only [↓ptV_l, ↓vcA, vcB, ↓vcD, vcE, ↓reduceIte, Nat.reduceEqDiff, Nat.reduceAdd, Nat.reduceMul, Nat.reduceLeDiff, Int.reduceLE, Int.reduceLT, Int.reduceEq, Int.reduceToNat, Int.reduceAdd, Int.reduceSub, Int.reduceMul, Int.reduceNeg, reduceCtorEq, Option.bind_some, Option.map_some, List.length_cons, List.length_nil, vcM, List.getElem?_toArray, List.getElem?_cons_zero, List.getElem?_cons_succ, h2'])
      (refine W_at c12_ok ?_; refine ⟨_, rfl, ?_⟩; simp (disch := first | omega | assumption | rfl | (simp only [vcS] <;> omega) | fail) only [↓ptV_l, ↓vcA, vcB, ↓vcD, vcE, ↓reduceIte, Nat.reduceEqDiff, Nat.reduceAdd, Nat.reduceMul, Nat.reduceLeDiff, Int.reduceLE, Int.reduceLT, Int.reduceEq, Int.reduceToNat, Int.reduceAdd, Int.reduceSub, Int.reduceMul, Int.reduceNeg, reduceCtorEq, Option.bind_some, Option.map_some, List.length_cons, List.length_nil, vcM, List.getElem?_toArray, List.getElem?_cons_zero, List.getElem?_cons_succ])
      (refine W_at c12_ok ?_; refine ⟨_, rfl, ?_⟩; simp (disch := first | omega | assumption | rfl | (simp only [vcS] <;> omega) | fail) only [↓ptV_l, ↓vcA, vcB, ↓vcD, vcE, ↓reduceIte, Nat.reduceEqDiff, Nat.reduceAdd, Nat.reduceMul, Nat.reduceLeDiff, Int.reduceLE, Int.reduceLT, Int.reduceEq, Int.reduceToNat, Int.reduceAdd, Int.reduceSub, Int.reduceMul, Int.reduceNeg, reduceCtorEq, Option.bind_some, Option.map_some, List.length_cons, List.length_nil, vcM, List.getElem?_toArray, List.getElem?_cons_zero, List.getElem?_cons_succ, h3d])
      (refine W_at c12_ok ?_; refine ⟨_, rfl, ?_⟩; simp (disch := first | omega | assumption | rfl | (simp only [vcS] <;> omega) | fail) only [↓ptV_l, ↓vcA, vcB, ↓vcD, vcE, ↓reduceIte, Nat.reduceEqDiff, Nat.reduceAdd, Nat.reduceMul, Nat.reduceLeDiff, Int.reduceLE, Int.reduceLT, Int.reduceEq, Int.reduceToNat, Int.reduceAdd, Int.reduceSub, Int.reduceMul, Int.reduceNeg, reduceCtorEq, Option.bind_some, Option.map_some, List.length_cons, List.length_nil, vcM, List.getElem?_toArray, List.getElem?_cons_zero, List.getElem?_cons_succ])
      exact leg_alone w p4 p8 t vi vo L t.outs i hi hin kind hk al c8 hc8 hok _ _ hP h8 l8
end Go.Proofs
namespace Go.Proofs
open Go.Vc
set_option maxRecDepth 10000

set_option maxHeartbeats 3200000 in
theorem legacy_ok (w : World) (iv ov : Value) (t : TxV) (hT : TxR w iv ov t) (hok : t.Ok) (hs : t.Sm) (i : Int) (x : Value) (bs : List Int) (hx : Rd w x bs) (kind : Int) (hk : 0 ≤ kind ∧ kind ≤ 255) (hi64 : -9223372036854775808 ≤ i ∧ i ≤ 9223372036854775807)
    (hgo : ∀ n : Nat, n < t.ins.length → i = n → ∀ l, (l = t.ins.mapIdx (legIn n bs (kind % 32)) ∨ l = ((t.ins.mapIdx (legIn n bs (kind % 32))).drop n).take 1) → ({ t with ins := l, outs := outsL t n (kind % 32) } : TxV).Ok ∧ ({ t with ins := l, outs := outsL t n (kind % 32) } : TxV).Few 100 1000 ∧ (encF { t with ins := l, outs := outsL t n (kind % 32) }).length ≤ 90000000) :
    Calls Try.prog 12 #[.agg (txC t iv ov), .int .i64 i, x, .int .u8 kind] w (Ret fun u w' => u = .agg (bv (if i < 0 ∨ (t.ins.length : Int) ≤ i ∨ kind % 32 = 3 ∧ (t.outs.length : Int) ≤ i then oneD else dblF (encF { t with ins := if 128 ≤ kind then ((t.ins.mapIdx (legIn i.toNat bs (kind % 32))).drop i.toNat).take 1 else t.ins.mapIdx (legIn i.toNat bs (kind % 32)), outs := outsL t i.toNat (kind % 32) } ++ lowF 4 kind))).toArray ∧ Ext w w') := by
  refine calls_of_cfg c12_ok (Nat.le_of_ble_eq_true rfl) ?_
  simp only [argE_nil, argE_cons, Nat.reduceAdd, Nat.zero_add]
  have hi1 := ListR.one hT.ins
  have ho1 := ListR.one hT.outs
  have hli := ListR.len hT.ins
  have hlo := ListR.len hT.outs
  have hfx : flat (txC t iv ov) := by intro y hy; simp only [txC, List.mem_toArray, List.mem_cons, List.not_mem_nil, or_false] at hy; rcases hy with rfl | rfl | rfl | rfl <;> first | rfl | assumption
  have hcx : (Value.agg (txC t iv ov)).cells = txC t iv ov := rfl
  have hzx := txC_sz t iv ov
  (refine W_at c12_ok ?_; refine ⟨_, rfl, ?_⟩; simp (disch := first | omega | assumption | rfl | (simp only [vcS] <;> omega) | fail) only [↓ptV_l, ↓vcA, vcB, ↓vcD, vcE, ↓reduceIte, Nat.reduceEqDiff, Nat.reduceAdd, Nat.reduceMul, Nat.reduceLeDiff, Int.reduceLE, Int.reduceLT, Int.reduceEq, Int.reduceToNat, Int.reduceAdd, Int.reduceSub, Int.reduceMul, Int.reduceNeg, reduceCtorEq, Option.bind_some, Option.map_some, List.length_cons, List.length_nil, vcM, List.getElem?_toArray, List.getElem?_cons_zero, List.getElem?_cons_succ, hfx, hcx, hzx])
  have hE1 : Ext w (w.alloc (.cells (txC t iv ov) 26)) := (Keep.refl _ w).alloc _
  have c1 : (w.alloc (.cells (txC t iv ov) 26)).heap[w.heap.size]? = some (.cells (txC t iv ov) 26 (0, 0)) := heap_new _ _ _ rfl
  have s1 : (w.alloc (.cells (txC t iv ov) 26)).heap.size = w.heap.size + 1 := size_alloc _ _
  generalize World.alloc w _ = w1 at hE1 c1 s1 ⊢
  have hE2 : Ext w1 (w1.alloc (.cells (zc [(32, .int .u8 0)]) 36)) := (Keep.refl _ w1).alloc _
  have c2 : (w1.alloc (.cells (zc [(32, .int .u8 0)]) 36)).heap[w1.heap.size]? = some (.cells (zc [(32, .int .u8 0)]) 36 (0, 0)) := heap_new _ _ _ rfl
  generalize World.alloc w1 _ = w2 at hE2 c2 ⊢
  rw [s1] at c2
  generalize hp1 : w.heap.size = p4 at c1 c2 s1 ⊢
  generalize hp2 : p4 + 1 = p8 at c2 s1 ⊢
  have c12 := hE2.at c1 (fun h => h)
  have hE02 := hE1.ext hE2
  (refine W_at c12_ok ?_; refine ⟨_, rfl, ?_⟩; simp (disch := first | omega | assumption | rfl | (simp only [vcS] <;> omega) | fail) only [↓ptV_l, ↓vcA, vcB, ↓vcD, vcE, ↓reduceIte, Nat.reduceEqDiff, Nat.reduceAdd, Nat.reduceMul, Nat.reduceLeDiff, Int.reduceLE, Int.reduceLT, Int.reduceEq, Int.reduceToNat, Int.reduceAdd, Int.reduceSub, Int.reduceMul, Int.reduceNeg, reduceCtorEq, Option.bind_some, Option.map_some, List.length_cons, List.length_nil, vcM, List.getElem?_toArray, List.getElem?_cons_zero, List.getElem?_cons_succ])
  refine callV_ret (way_ok w2 kind hk) ?_
  rintro _ wx ⟨rfl, hwx⟩
  rw [hwx]
  clear hwx
  first | (simp (disch := first | omega | assumption | rfl | (simp only [vcS] <;> omega) | fail) only [↓ptV_l, ↓vcA, vcB, ↓vcD, vcE, ↓reduceIte, Nat.reduceEqDiff, Nat.reduceAdd, Nat.reduceMul, Nat.reduceLeDiff, Int.reduceLE, Int.reduceLT, Int.reduceEq, Int.reduceToNat, Int.reduceAdd, Int.reduceSub, Int.reduceMul, Int.reduceNeg, reduceCtorEq, Option.bind_some, Option.map_some, List.length_cons, List.length_nil, vcM, List.getElem?_toArray, List.getElem?_cons_zero, List.getElem?_cons_succ]) | skip
  have hzz : (zc [(32, Value.int .u8 0)]).size = 32 := rfl
  -- nothing to sign
  have noth : (i < 0 ∨ (t.ins.length : Int) ≤ i ∨ kind % 32 = 3 ∧ (t.outs.length : Int) ≤ i) → ∀ tl, W Try.prog (Ret fun u w' => u = .agg (bv (if i < 0 ∨ (t.ins.length : Int) ≤ i ∨ kind % 32 = 3 ∧ (t.outs.length : Int) ≤ i then oneD else dblF (encF { t with ins := if 128 ≤ kind then ((t.ins.mapIdx (legIn i.toNat bs (kind % 32))).drop i.toNat).take 1 else t.ins.mapIdx (legIn i.toNat bs (kind % 32)), outs := outsL t i.toNat (kind % 32) } ++ lowF 4 kind))).toArray ∧ Ext w w') 12 39 ((1, .int .i64 i) :: (2, x) :: (3, .int .u8 kind) :: (4, .pointer (some ⟨p4, 0, none⟩)) :: (8, .pointer (some ⟨p8, 0, none⟩)) :: tl) w2 := by
    intro hc tl
    rw [if_pos hc]
    (refine W_at c12_ok ?_; refine ⟨_, rfl, ?_⟩; simp (disch := first | omega | assumption | rfl | (simp only [vcS] <;> omega) | fail) only [↓ptV_l, ↓vcA, vcB, ↓vcD, vcE, ↓reduceIte, Nat.reduceEqDiff, Nat.reduceAdd, Nat.reduceMul, Nat.reduceLeDiff, Int.reduceLE, Int.reduceLT, Int.reduceEq, Int.reduceToNat, Int.reduceAdd, Int.reduceSub, Int.reduceMul, Int.reduceNeg, reduceCtorEq, Option.bind_some, Option.map_some, List.length_cons, List.length_nil, vcM, List.getElem?_toArray, List.getElem?_cons_zero, List.getElem?_cons_succ])
    refine callV_ret (nothing_ok w2) ?_
    rintro _ w3 ⟨rfl, hE3⟩
    have c23 := hE3.at c2 (fun h => h)
    have s32 : (bv oneD).toArray.size = 32 := rfl
    have o32 : okO (some (.cells (zc [(32, .int .u8 0)]) 36 (0, 0))) 0 32 = True := by simp only [okO, hzz]; simp
    first | (simp (disch := first | omega | assumption | rfl | (simp only [vcS] <;> omega) | fail) only [↓ptV_l, ↓vcA, vcB, ↓vcD, vcE, ↓reduceIte, Nat.reduceEqDiff, Nat.reduceAdd, Nat.reduceMul, Nat.reduceLeDiff, Int.reduceLE, Int.reduceLT, Int.reduceEq, Int.reduceToNat, Int.reduceAdd, Int.reduceSub, Int.reduceMul, Int.reduceNeg, reduceCtorEq, Option.bind_some, Option.map_some, List.length_cons, List.length_nil, vcM, List.getElem?_toArray, List.getElem?_cons_zero, List.getElem?_cons_succ, c23, s32, o32]) | skip
    refine ⟨bv_flat _, ?_⟩
    have hk8 : Keep (fun g => g = p8) w3 (w3.putN p8 0 (bv oneD).toArray) := (Keep.refl _ w3).putN _ fun _ => rfl
    have d9 : (w3.putN p8 0 (bv oneD).toArray).heap[p8]? = some (.cells (bv oneD).toArray 36 (0, 0)) := by rw [heap_putN_eq c23, splice_all (by rw [s32]; rfl)]
    have hr32 : rdO (some (.cells (bv oneD).toArray 36 (0, 0))) 0 32 = some (bv oneD).toArray := rdO_all _ _ _ _ s32
    (refine W_at c12_ok ?_; refine ⟨_, rfl, ?_⟩; simp (disch := first | omega | assumption | rfl | (simp only [vcS] <;> omega) | fail) only [↓ptV_l, ↓vcA, vcB, ↓vcD, vcE, ↓reduceIte, Nat.reduceEqDiff, Nat.reduceAdd, Nat.reduceMul, Nat.reduceLeDiff, Int.reduceLE, Int.reduceLT, Int.reduceEq, Int.reduceToNat, Int.reduceAdd, Int.reduceSub, Int.reduceMul, Int.reduceNeg, reduceCtorEq, Option.bind_some, Option.map_some, List.length_cons, List.length_nil, vcM, List.getElem?_toArray, List.getElem?_cons_zero, List.getElem?_cons_succ, d9, hr32, Ret_returned])
    exact (hE02.ext hE3).trans hk8 fun g hg e => by omega
  have go : ¬ i < 0 → ¬ (t.ins.length : Int) ≤ i → ¬ (kind % 32 = 3 ∧ (t.outs.length : Int) ≤ i) → ∀ tl, W Try.prog (Ret fun u w' => u = .agg (bv (if i < 0 ∨ (t.ins.length : Int) ≤ i ∨ kind % 32 = 3 ∧ (t.outs.length : Int) ≤ i then oneD else dblF (encF { t with ins := if 128 ≤ kind then ((t.ins.mapIdx (legIn i.toNat bs (kind % 32))).drop i.toNat).take 1 else t.ins.mapIdx (legIn i.toNat bs (kind % 32)), outs := outsL t i.toNat (kind % 32) } ++ lowF 4 kind))).toArray ∧ Ext w w') 12 37 ((1, .int .i64 i) :: (2, x) :: (3, .int .u8 kind) :: (4, .pointer (some ⟨p4, 0, none⟩)) :: (8, .pointer (some ⟨p8, 0, none⟩)) :: (9, .int .u8 (kind % 32)) :: (10, .bool (decide (128 ≤ kind))) :: tl) w2 := by
    intro a1 a2 a3 tl
    rw [if_neg (by rintro (h | h | h); exact a1 h; exact a2 h; exact a3 h)]
    clear noth
    obtain ⟨n, rfl⟩ := Int.eq_ofNat_of_zero_le (show 0 ≤ i by omega)
    rw [Int.toNat_natCast]
    have hn : n < t.ins.length := by omega
    have hgo' := hgo n hn rfl
    have hr4 : rdO (some (.cells (txC t iv ov) 26 (0, 0))) 0 4 = some (txC t iv ov) := rdO_all _ _ _ _ rfl
    (refine W_at c12_ok ?_; refine ⟨_, rfl, ?_⟩; simp (disch := first | omega | assumption | rfl | (simp only [vcS] <;> omega) | fail) only [↓ptV_l, ↓vcA, vcB, ↓vcD, vcE, ↓reduceIte, Nat.reduceEqDiff, Nat.reduceAdd, Nat.reduceMul, Nat.reduceLeDiff, Int.reduceLE, Int.reduceLT, Int.reduceEq, Int.reduceToNat, Int.reduceAdd, Int.reduceSub, Int.reduceMul, Int.reduceNeg, reduceCtorEq, Option.bind_some, Option.map_some, List.length_cons, List.length_nil, vcM, List.getElem?_toArray, List.getElem?_cons_zero, List.getElem?_cons_succ, c12, hr4])
    refine callV_ret (tclone_ok w2 iv ov t (hT.ext hE02) hok hs) ?_
    rintro _ w3 ⟨vi, vo, rfl, hI, hO, hE3⟩
    have c13 := hE3.at c12 (fun h => h)
    have c23 := hE3.at c2 (fun h => h)
    have hz2 := txC_sz t vi vo
    have ho4 : okO (some (.cells (txC t iv ov) 26 (0, 0))) 0 4 = True := by simp only [okO, hzx]; simp
    first | (simp (disch := first | omega | assumption | rfl | (simp only [vcS] <;> omega) | fail) only [↓ptV_l, ↓vcA, vcB, ↓vcD, vcE, ↓reduceIte, Nat.reduceEqDiff, Nat.reduceAdd, Nat.reduceMul, Nat.reduceLeDiff, Int.reduceLE, Int.reduceLT, Int.reduceEq, Int.reduceToNat, Int.reduceAdd, Int.reduceSub, Int.reduceMul, Int.reduceNeg, reduceCtorEq, Option.bind_some, Option.map_some, List.length_cons, List.length_nil, vcM, List.getElem?_toArray, List.getElem?_cons_zero, List.getElem?_cons_succ, c13, hz2, ho4]) | skip
    have hw2 : w.heap.size ≤ w2.heap.size := hE02.size
    have hfv : flat (txC t vi vo) := by
      have a1 := ListN.one hI
      have a2 := ListN.one hO
      intro y hy; simp only [txC, List.mem_toArray, List.mem_cons, List.not_mem_nil, or_false] at hy; rcases hy with rfl | rfl | rfl | rfl <;> first | rfl | assumption
    refine ⟨hfv, ?_⟩
    have hk4 : Keep (fun g => g = p4) w3 (w3.putN p4 0 (txC t vi vo)) := (Keep.refl _ w3).putN _ fun _ => rfl
    have hP : LS w (w3.putN p4 0 (txC t vi vo)) p4 t vi vo t.ins t.outs :=
      ⟨(hE02.ext hE3).trans hk4 fun g hg e => by omega, by rw [heap_putN_eq c13, splice_all (by rw [hzx, hz2])], ListN.imp (InsN.setT hI hk4 c13 (by decide) (by decide) (by decide)) hw2 fun c x _ hR => hR.iq hw2, ListN.imp (OusN.setT hO hk4 c13 (by decide) (by decide)) hw2 fun c y _ hR => hR.oq, by omega⟩
    have h8 : (w3.putN p4 0 (txC t vi vo)).heap[p8]? = some (.cells (zc [(32, .int .u8 0)]) 36 (0, 0)) := hk4.at c23 (by omega)
    generalize World.putN _ _ _ _ = w4 at hP h8 ⊢
    have d4 := hP.c4
    have hlen := ListN.len hP.ins
    (refine W_at c12_ok ?_; refine ⟨_, rfl, ?_⟩; simp (disch := first | omega | assumption | rfl | (simp only [vcS] <;> omega) | fail) only [↓ptV_l, ↓vcA, vcB, ↓vcD, vcE, ↓reduceIte, Nat.reduceEqDiff, Nat.reduceAdd, Nat.reduceMul, Nat.reduceLeDiff, Int.reduceLE, Int.reduceLT, Int.reduceEq, Int.reduceToNat, Int.reduceAdd, Int.reduceSub, Int.reduceMul, Int.reduceNeg, reduceCtorEq, Option.bind_some, Option.map_some, List.length_cons, List.length_nil, vcM, List.getElem?_toArray, List.getElem?_cons_zero, List.getElem?_cons_succ, d4, txC_1, hlen])
    refine leg_ins _ w p4 p8 t hok hs.ins vi vo t.outs n hn x bs hx kind (kind % 32) (decide (128 ≤ kind)) _ (fun wz tlz hz h8z => ?_) t.ins.length 0 w4 t.ins _ (by omega) rfl (fun a b c => by rw [if_neg (by omega)]) hP h8
    have := leg_switch w p4 p8 t vi vo (t.ins.mapIdx (legIn n bs (kind % 32))) n (by simpa using hn) (by simpa using hs.ins) hs.outs x kind (kind % 32) hk (fun h => by omega) (decide (128 ≤ kind)) _ hzz hgo' wz tlz hz h8z (by omega)
    simpa only [decide_eq_true_eq] using this
  revert noth go
  generalize Ret _ = Q
  intro noth go
  by_cases a1 : i < 0
  · (refine W_at c12_ok ?_; refine ⟨_, rfl, ?_⟩; simp (disch := first | omega | assumption | rfl | (simp only [vcS] <;> omega) | fail) only [↓ptV_l, ↓vcA, vcB, ↓vcD, vcE, ↓reduceIte, Nat.reduceEqDiff, Nat.reduceAdd, Nat.reduceMul, Nat.reduceLeDiff, Int.reduceLE, Int.reduceLT, Int.reduceEq, Int.reduceToNat, Int.reduceAdd, Int.reduceSub, Int.reduceMul, Int.reduceNeg, reduceCtorEq, Option.bind_some, Option.map_some, List.length_cons, List.length_nil, vcM, List.getElem?_toArray, List.getElem?_cons_zero, List.getElem?_cons_succ, a1, c12, txC_1, txC_2, hli, hlo])
    (refine W_at c12_ok ?_; refine ⟨_, rfl, ?_⟩; simp (disch := first | omega | assumption | rfl | (simp only [vcS] <;> omega) | fail) only [↓ptV_l, ↓vcA, vcB, ↓vcD, vcE, ↓reduceIte, Nat.reduceEqDiff, Nat.reduceAdd, Nat.reduceMul, Nat.reduceLeDiff, Int.reduceLE, Int.reduceLT, Int.reduceEq, Int.reduceToNat, Int.reduceAdd, Int.reduceSub, Int.reduceMul, Int.reduceNeg, reduceCtorEq, Option.bind_some, Option.map_some, List.length_cons, List.length_nil, vcM, List.getElem?_toArray, List.getElem?_cons_zero, List.getElem?_cons_succ])
    exact noth (.inl a1) _
  by_cases a2 : (t.ins.length : Int) ≤ i
  · (refine W_at c12_ok ?_; refine ⟨_, rfl, ?_⟩; simp (disch := first | omega | assumption | rfl | (simp only [vcS] <;> omega) | fail) only [↓ptV_l, ↓vcA, vcB, ↓vcD, vcE, ↓reduceIte, Nat.reduceEqDiff, Nat.reduceAdd, Nat.reduceMul, Nat.reduceLeDiff, Int.reduceLE, Int.reduceLT, Int.reduceEq, Int.reduceToNat, Int.reduceAdd, Int.reduceSub, Int.reduceMul, Int.reduceNeg, reduceCtorEq, Option.bind_some, Option.map_some, List.length_cons, List.length_nil, vcM, List.getElem?_toArray, List.getElem?_cons_zero, List.getElem?_cons_succ, a1, a2, c12, txC_1, txC_2, hli, hlo])
    (refine W_at c12_ok ?_; refine ⟨_, rfl, ?_⟩; simp (disch := first | omega | assumption | rfl | (simp only [vcS] <;> omega) | fail) only [↓ptV_l, ↓vcA, vcB, ↓vcD, vcE, ↓reduceIte, Nat.reduceEqDiff, Nat.reduceAdd, Nat.reduceMul, Nat.reduceLeDiff, Int.reduceLE, Int.reduceLT, Int.reduceEq, Int.reduceToNat, Int.reduceAdd, Int.reduceSub, Int.reduceMul, Int.reduceNeg, reduceCtorEq, Option.bind_some, Option.map_some, List.length_cons, List.length_nil, vcM, List.getElem?_toArray, List.getElem?_cons_zero, List.getElem?_cons_succ])
    exact noth (.inr (.inl a2)) _
  by_cases a3 : kind % 32 = 3
  · have a3' : decide (kind % 32 = 3) = true := decide_eq_true a3
    by_cases a4 : (t.outs.length : Int) ≤ i
    · (refine W_at c12_ok ?_; refine ⟨_, rfl, ?_⟩; simp (disch := first | omega | assumption | rfl | (simp only [vcS] <;> omega) | fail) only [↓ptV_l, ↓vcA, vcB, ↓vcD, vcE, ↓reduceIte, Nat.reduceEqDiff, Nat.reduceAdd, Nat.reduceMul, Nat.reduceLeDiff, Int.reduceLE, Int.reduceLT, Int.reduceEq, Int.reduceToNat, Int.reduceAdd, Int.reduceSub, Int.reduceMul, Int.reduceNeg, reduceCtorEq, Option.bind_some, Option.map_some, List.length_cons, List.length_nil, vcM, List.getElem?_toArray, List.getElem?_cons_zero, List.getElem?_cons_succ, a1, a2, a3', a4, c12, txC_1, txC_2, hli, hlo])
      (refine W_at c12_ok ?_; refine ⟨_, rfl, ?_⟩; simp (disch := first | omega | assumption | rfl | (simp only [vcS] <;> omega) | fail) only [↓ptV_l, ↓vcA, vcB, ↓vcD, vcE, ↓reduceIte, Nat.reduceEqDiff, Nat.reduceAdd, Nat.reduceMul, Nat.reduceLeDiff, Int.reduceLE, Int.reduceLT, Int.reduceEq, Int.reduceToNat, Int.reduceAdd, Int.reduceSub, Int.reduceMul, Int.reduceNeg, reduceCtorEq, Option.bind_some, Option.map_some, List.length_cons, List.length_nil, vcM, List.getElem?_toArray, List.getElem?_cons_zero, List.getElem?_cons_succ])
      exact noth (.inr (.inr ⟨a3, a4⟩)) _
    · (refine W_at c12_ok ?_; refine ⟨_, rfl, ?_⟩; simp (disch := first | omega | assumption | rfl | (simp only [vcS] <;> omega) | fail) only [↓ptV_l, ↓vcA, vcB, ↓vcD, vcE, ↓reduceIte, Nat.reduceEqDiff, Nat.reduceAdd, Nat.reduceMul, Nat.reduceLeDiff, Int.reduceLE, Int.reduceLT, Int.reduceEq, Int.reduceToNat, Int.reduceAdd, Int.reduceSub, Int.reduceMul, Int.reduceNeg, reduceCtorEq, Option.bind_some, Option.map_some, List.length_cons, List.length_nil, vcM, List.getElem?_toArray, List.getElem?_cons_zero, List.getElem?_cons_succ, a1, a2, a3', a4, c12, txC_1, txC_2, hli, hlo])
      (refine W_at c12_ok ?_; refine ⟨_, rfl, ?_⟩; simp (disch := first | omega | assumption | rfl | (simp only [vcS] <;> omega) | fail) only [↓ptV_l, ↓vcA, vcB, ↓vcD, vcE, ↓reduceIte, Nat.reduceEqDiff, Nat.reduceAdd, Nat.reduceMul, Nat.reduceLeDiff, Int.reduceLE, Int.reduceLT, Int.reduceEq, Int.reduceToNat, Int.reduceAdd, Int.reduceSub, Int.reduceMul, Int.reduceNeg, reduceCtorEq, Option.bind_some, Option.map_some, List.length_cons, List.length_nil, vcM, List.getElem?_toArray, List.getElem?_cons_zero, List.getElem?_cons_succ])
      exact go a1 a2 (fun h => a4 h.2) _
  · have a3' : decide (kind % 32 = 3) = false := decide_eq_false a3
    (refine W_at c12_ok ?_; refine ⟨_, rfl, ?_⟩; simp (disch := first | omega | assumption | rfl | (simp only [vcS] <;> omega) | fail) only [↓ptV_l, ↓vcA, vcB, ↓vcD, vcE, ↓reduceIte, Nat.reduceEqDiff, Nat.reduceAdd, Nat.reduceMul, Nat.reduceLeDiff, Int.reduceLE, Int.reduceLT, Int.reduceEq, Int.reduceToNat, Int.reduceAdd, Int.reduceSub, Int.reduceMul, Int.reduceNeg, reduceCtorEq, Option.bind_some, Option.map_some, List.length_cons, List.length_nil, vcM, List.getElem?_toArray, List.getElem?_cons_zero, List.getElem?_cons_succ, a1, a2, a3', c12, txC_1, txC_2, hli, hlo])
    (refine W_at c12_ok ?_; refine ⟨_, rfl, ?_⟩; simp (disch := first | omega | assumption | rfl | (simp only [vcS] <;> omega) | fail) only [↓ptV_l, ↓vcA, vcB, ↓vcD, vcE, ↓reduceIte, Nat.reduceEqDiff, Nat.reduceAdd, Nat.reduceMul, Nat.reduceLeDiff, Int.reduceLE, Int.reduceLT, Int.reduceEq, Int.reduceToNat, Int.reduceAdd, Int.reduceSub, Int.reduceMul, Int.reduceNeg, reduceCtorEq, Option.bind_some, Option.map_some, List.length_cons, List.length_nil, vcM, List.getElem?_toArray, List.getElem?_cons_zero, List.getElem?_cons_succ])
    exact go a1 a2 (fun h => a3 h.1) _
end Go.Proofs
namespace Go.Proofs
open Go.Vc
set_option maxRecDepth 10000

def pC (prev : List Int) (idx : Int) : Array Value := (bv prev ++ [Value.int .u32 idx]).toArray
theorem pC_size {prev : List Int} (h : prev.length = 32) (idx : Int) : (pC prev idx).size = 33 := by simp [pC, bv_len, h]
theorem pC_flat (prev : List Int) (idx : Int) : flat (pC prev idx) := by
  intro y hy
  simp only [pC, List.mem_toArray, List.mem_append, List.mem_cons, List.not_mem_nil, or_false] at hy
  rcases hy with hy | rfl
  · exact bv_flat prev y (by simpa using hy)
  · rfl
theorem pC_32 {prev : List Int} (h : prev.length = 32) (idx : Int) : (pC prev idx)[32]? = some (.int .u32 idx) := by
  simp [pC, List.getElem?_append_right, bv_len, h]
theorem pC_rd {w : World} {g : Nat} {prev : List Int} {idx : Int} {T : TypeId} (hx : prev.length = 32) (h : w.heap[g]? = some (.cells (pC prev idx) T (0, 0))) : Rd w (.slice (some ⟨g, 0, none⟩) 32 32) prev := by
  refine ⟨⟨_, 32, by rw [hx], by omega⟩, by rw [hx]; decide, ?_⟩
  simp only [rdS]
  rw [if_neg (by omega), rdN_heap, h, rdO_some _ _ _ _ _ (by rw [pC_size hx]; omega)]
  congr 1
  apply Array.ext'
  simp [pC, List.take_append, bv_len, hx]
/-- Steps of a writer, one behind the other. -/
theorem WTo.pre {w w1 w2 : World} {p : Nat} {v : Value} {bs : List Int} (k : Ext w w1) (h : WTo w1 w2 p v bs) : WTo w w2 p v bs := by
  obtain ⟨⟨v2, ha, hg⟩, hk⟩ := h
  exact ⟨⟨v2, ha, fun g hb => (hg g hb).imp id fun h => Nat.le_trans k.size h⟩, (k.mono fun _ h => h.elim).trans hk fun i _ h => h⟩
theorem WTo.then {w w1 : World} {p : Nat} {v : Value} {bs : List Int} (h : WTo w w1 p v bs) : ∃ v1, WAt w1 p v1 bs ∧ ∀ w2 bs2, WTo w1 w2 p v1 bs2 → WTo w w2 p v bs2 := by
  obtain ⟨⟨v1, ha, hg⟩, hk⟩ := h
  exact ⟨v1, ha, fun w2 bs2 h2 => WTo.trans hk hg h2⟩
set_option maxHeartbeats 1600000 in
theorem place_ok (w : World) (p : Nat) (v : Value) (bs prev : List Int) (idx : Int) (h : WAt w p v bs) (hp : prev.length = 32) (hi : 0 ≤ idx ∧ idx ≤ 4294967295) (hl : bs.length ≤ 90000000) :
    Calls Try.prog 38 #[.pointer (some ⟨p, 0, none⟩), .agg (pC prev idx)] w (Ret fun _ w' => WTo w w' p v (bs ++ (prev ++ lowF 4 idx))) := by
  refine calls_of_cfg c38_ok (Nat.le_of_ble_eq_true rfl) ?_
  simp only [argE_nil, argE_cons, Nat.reduceAdd, Nat.zero_add]
  have hf := pC_flat prev idx
  have hc : (Value.agg (pC prev idx)).cells = pC prev idx := rfl
  have hz := pC_size hp idx
  (refine W_at c38_ok ?_; refine ⟨_, rfl, ?_⟩; simp (disch := first | omega | assumption | rfl | (simp only [vcS] <;> omega) | fail) only [↓ptV_l, ↓vcA, vcB, ↓vcD, vcE, ↓reduceIte, Nat.reduceEqDiff, Nat.reduceAdd, Nat.reduceMul, Nat.reduceLeDiff, Int.reduceLE, Int.reduceLT, Int.reduceEq, Int.reduceToNat, Int.reduceAdd, Int.reduceSub, Int.reduceMul, Int.reduceNeg, reduceCtorEq, Option.bind_some, Option.map_some, List.length_cons, List.length_nil, vcM, List.getElem?_toArray, List.getElem?_cons_zero, List.getElem?_cons_succ, hf, hc, hz])
  have hE : Ext w (w.alloc (.cells (pC prev idx) 47)) := (Keep.refl _ w).alloc _
  have h3 : (w.alloc (.cells (pC prev idx) 47)).heap[w.heap.size]? = some (.cells (pC prev idx) 47 (0, 0)) := heap_new _ _ _ rfl
  generalize World.alloc _ _ = w1 at hE h3 ⊢
  generalize w.heap.size = p3 at h3 ⊢
  have hW := h.keep hE (fun h => h) fun _ _ h => h
  have hr := pC_rd hp h3
  have c32 := pC_32 hp idx
  (refine W_at c38_ok ?_; refine ⟨_, rfl, ?_⟩; simp (disch := first | omega | assumption | rfl | (simp only [vcS] <;> omega) | fail) only [↓ptV_l, ↓vcA, vcB, ↓vcD, vcE, ↓reduceIte, Nat.reduceEqDiff, Nat.reduceAdd, Nat.reduceMul, Nat.reduceLeDiff, Int.reduceLE, Int.reduceLT, Int.reduceEq, Int.reduceToNat, Int.reduceAdd, Int.reduceSub, Int.reduceMul, Int.reduceNeg, reduceCtorEq, Option.bind_some, Option.map_some, List.length_cons, List.length_nil, vcM, List.getElem?_toArray, List.getElem?_cons_zero, List.getElem?_cons_succ, advA_0, Nat.sub_zero])
  refine callV_ret (raw_ok w1 p v bs _ prev hW hr (by omega)) ?_
  intro _ w2 hT
  have h32 := hT.at hW h3 (by decide) (by decide)
  obtain ⟨v2, hW2, hn⟩ := (hT.pre hE).then
  first | (simp (disch := first | omega | assumption | rfl | (simp only [vcS] <;> omega) | fail) only [↓ptV_l, ↓vcA, vcB, ↓vcD, vcE, ↓reduceIte, Nat.reduceEqDiff, Nat.reduceAdd, Nat.reduceMul, Nat.reduceLeDiff, Int.reduceLE, Int.reduceLT, Int.reduceEq, Int.reduceToNat, Int.reduceAdd, Int.reduceSub, Int.reduceMul, Int.reduceNeg, reduceCtorEq, Option.bind_some, Option.map_some, List.length_cons, List.length_nil, vcM, List.getElem?_toArray, List.getElem?_cons_zero, List.getElem?_cons_succ]) | skip
  (refine W_at c38_ok ?_; refine ⟨_, rfl, ?_⟩; simp (disch := first | omega | assumption | rfl | (simp only [vcS] <;> omega) | fail) only [↓ptV_l, ↓vcA, vcB, ↓vcD, vcE, ↓reduceIte, Nat.reduceEqDiff, Nat.reduceAdd, Nat.reduceMul, Nat.reduceLeDiff, Int.reduceLE, Int.reduceLT, Int.reduceEq, Int.reduceToNat, Int.reduceAdd, Int.reduceSub, Int.reduceMul, Int.reduceNeg, reduceCtorEq, Option.bind_some, Option.map_some, List.length_cons, List.length_nil, vcM, List.getElem?_toArray, List.getElem?_cons_zero, List.getElem?_cons_succ, h32, c32])
  refine callV_ret (u32_ok w2 p v2 _ idx hW2 (by rw [List.length_append]; omega) hi) ?_
  intro _ w3 hT3
  first | (simp (disch := first | omega | assumption | rfl | (simp only [vcS] <;> omega) | fail) only [↓ptV_l, ↓vcA, vcB, ↓vcD, vcE, ↓reduceIte, Nat.reduceEqDiff, Nat.reduceAdd, Nat.reduceMul, Nat.reduceLeDiff, Int.reduceLE, Int.reduceLT, Int.reduceEq, Int.reduceToNat, Int.reduceAdd, Int.reduceSub, Int.reduceMul, Int.reduceNeg, reduceCtorEq, Option.bind_some, Option.map_some, List.length_cons, List.length_nil, vcM, List.getElem?_toArray, List.getElem?_cons_zero, List.getElem?_cons_succ]) | skip
  (refine W_at c38_ok ?_; refine ⟨_, rfl, ?_⟩; simp (disch := first | omega | assumption | rfl | (simp only [vcS] <;> omega) | fail) only [↓ptV_l, ↓vcA, vcB, ↓vcD, vcE, ↓reduceIte, Nat.reduceEqDiff, Nat.reduceAdd, Nat.reduceMul, Nat.reduceLeDiff, Int.reduceLE, Int.reduceLT, Int.reduceEq, Int.reduceToNat, Int.reduceAdd, Int.reduceSub, Int.reduceMul, Int.reduceNeg, reduceCtorEq, Option.bind_some, Option.map_some, List.length_cons, List.length_nil, vcM, List.getElem?_toArray, List.getElem?_cons_zero, List.getElem?_cons_succ, Ret_returned])
  rw [← List.append_assoc]
  exact hn _ _ hT3
def zeroD : List Int := List.replicate 32 0
set_option maxHeartbeats 1600000 in
theorem over_ok (w : World) (is : Bool) (g : FuncId) (cap : Array Value) (hg : plainF Try.prog g = true) (bs : List Int) (hb : byt bs) (hl : bs.length ≤ 90000000)
    (hc : ∀ w0 w1 p, Ext w w0 → WMid w0 w1 p (.slice none 0 0) [] → Calls Try.prog g ([] ++ [Value.pointer (some ⟨p, 0, none⟩)] ++ cap.toList).toArray w1 (Ret fun _ w' => ∃ v', WMid w0 w' p v' bs)) :
    Calls Try.prog 36 #[.bool is, .func (.func g) #[] cap] w (Ret fun u w' => u = .agg (bv (if is then dblF bs else zeroD)).toArray ∧ Ext w w') := by
  refine calls_of_cfg c36_ok (Nat.le_of_ble_eq_true rfl) ?_
  simp only [argE_nil, argE_cons, Nat.reduceAdd, Nat.zero_add]
  (refine W_at c36_ok ?_; refine ⟨_, rfl, ?_⟩; simp (disch := first | omega | assumption | rfl | (simp only [vcS] <;> omega) | fail) only [↓ptV_l, ↓vcA, vcB, ↓vcD, vcE, ↓reduceIte, Nat.reduceEqDiff, Nat.reduceAdd, Nat.reduceMul, Nat.reduceLeDiff, Int.reduceLE, Int.reduceLT, Int.reduceEq, Int.reduceToNat, Int.reduceAdd, Int.reduceSub, Int.reduceMul, Int.reduceNeg, reduceCtorEq, Option.bind_some, Option.map_some, List.length_cons, List.length_nil, vcM, List.getElem?_toArray, List.getElem?_cons_zero, List.getElem?_cons_succ])
  have hE : Ext w (w.alloc (.cells (zc [(32, .int .u8 0)]) 36)) := (Keep.refl _ w).alloc _
  have h4 : (w.alloc (.cells (zc [(32, .int .u8 0)]) 36)).heap[w.heap.size]? = some (.cells (zc [(32, .int .u8 0)]) 36 (0, 0)) := heap_new _ _ _ rfl
  generalize hw1 : World.alloc _ _ = w1 at hE h4 ⊢
  generalize hp4 : w.heap.size = p4 at h4 ⊢
  cases is with
  | false =>
    have hb0 : #[] ++ zc [(32, Value.int .u8 0)] = (bv zeroD).toArray := rfl
    have hb1 : zc [(32, Value.int .u8 0)] = (bv zeroD).toArray := rfl
    have s32 : (bv zeroD).toArray.size = 32 := rfl
    rw [hb1] at h4
    (refine W_at c36_ok ?_; refine ⟨_, rfl, ?_⟩; simp (disch := first | omega | assumption | rfl | (simp only [vcS] <;> omega) | fail) only [↓ptV_l, ↓vcA, vcB, ↓vcD, vcE, ↓reduceIte, Nat.reduceEqDiff, Nat.reduceAdd, Nat.reduceMul, Nat.reduceLeDiff, Int.reduceLE, Int.reduceLT, Int.reduceEq, Int.reduceToNat, Int.reduceAdd, Int.reduceSub, Int.reduceMul, Int.reduceNeg, reduceCtorEq, Option.bind_some, Option.map_some, List.length_cons, List.length_nil, vcM, List.getElem?_toArray, List.getElem?_cons_zero, List.getElem?_cons_succ])
    (refine W_at c36_ok ?_; refine ⟨_, rfl, ?_⟩; simp (disch := first | omega | assumption | rfl | (simp only [vcS] <;> omega) | fail) only [↓ptV_l, ↓vcA, vcB, ↓vcD, vcE, ↓reduceIte, Nat.reduceEqDiff, Nat.reduceAdd, Nat.reduceMul, Nat.reduceLeDiff, Int.reduceLE, Int.reduceLT, Int.reduceEq, Int.reduceToNat, Int.reduceAdd, Int.reduceSub, Int.reduceMul, Int.reduceNeg, reduceCtorEq, Option.bind_some, Option.map_some, List.length_cons, List.length_nil, vcM, List.getElem?_toArray, List.getElem?_cons_zero, List.getElem?_cons_succ])
    have o32 : okO (some (.cells (bv zeroD).toArray 36 (0, 0))) 0 32 = True := by simp only [okO, s32]; simp
    (refine W_at c36_ok ?_; refine ⟨_, rfl, ?_⟩; simp (disch := first | omega | assumption | rfl | (simp only [vcS] <;> omega) | fail) only [↓ptV_l, ↓vcA, vcB, ↓vcD, vcE, ↓reduceIte, Nat.reduceEqDiff, Nat.reduceAdd, Nat.reduceMul, Nat.reduceLeDiff, Int.reduceLE, Int.reduceLT, Int.reduceEq, Int.reduceToNat, Int.reduceAdd, Int.reduceSub, Int.reduceMul, Int.reduceNeg, reduceCtorEq, Option.bind_some, Option.map_some, List.length_cons, List.length_nil, vcM, List.getElem?_toArray, List.getElem?_cons_zero, List.getElem?_cons_succ, hb1, s32, h4, o32])
    refine ⟨bv_flat _, ?_⟩
    have d9 : (w1.putN p4 0 (bv zeroD).toArray).heap[p4]? = some (.cells (bv zeroD).toArray 36 (0, 0)) := by rw [heap_putN_eq h4, splice_all (by rw [s32])]
    have hr32 : rdO (some (.cells (bv zeroD).toArray 36 (0, 0))) 0 32 = some (bv zeroD).toArray := rdO_all _ _ _ _ s32
    (refine W_at c36_ok ?_; refine ⟨_, rfl, ?_⟩; simp (disch := first | omega | assumption | rfl | (simp only [vcS] <;> omega) | fail) only [↓ptV_l, ↓vcA, vcB, ↓vcD, vcE, ↓reduceIte, Nat.reduceEqDiff, Nat.reduceAdd, Nat.reduceMul, Nat.reduceLeDiff, Int.reduceLE, Int.reduceLT, Int.reduceEq, Int.reduceToNat, Int.reduceAdd, Int.reduceSub, Int.reduceMul, Int.reduceNeg, reduceCtorEq, Option.bind_some, Option.map_some, List.length_cons, List.length_nil, vcM, List.getElem?_toArray, List.getElem?_cons_zero, List.getElem?_cons_succ, d9, hr32, Ret_returned])
    exact hE.trans ((Keep.refl (fun g => g = p4) w1).putN _ fun _ => rfl) fun g hg e => by omega
  | true =>
    have hzz : (zc [(32, Value.int .u8 0)]).size = 32 := rfl
    (refine W_at c36_ok ?_; refine ⟨_, rfl, ?_⟩; simp (disch := first | omega | assumption | rfl | (simp only [vcS] <;> omega) | fail) only [↓ptV_l, ↓vcA, vcB, ↓vcD, vcE, ↓reduceIte, Nat.reduceEqDiff, Nat.reduceAdd, Nat.reduceMul, Nat.reduceLeDiff, Int.reduceLE, Int.reduceLT, Int.reduceEq, Int.reduceToNat, Int.reduceAdd, Int.reduceSub, Int.reduceMul, Int.reduceNeg, reduceCtorEq, Option.bind_some, Option.map_some, List.length_cons, List.length_nil, vcM, List.getElem?_toArray, List.getElem?_cons_zero, List.getElem?_cons_succ])
    (refine W_at c36_ok ?_; refine ⟨_, rfl, ?_⟩; simp (disch := first | omega | assumption | rfl | (simp only [vcS] <;> omega) | fail) only [↓ptV_l, ↓vcA, vcB, ↓vcD, vcE, ↓reduceIte, Nat.reduceEqDiff, Nat.reduceAdd, Nat.reduceMul, Nat.reduceLeDiff, Int.reduceLE, Int.reduceLT, Int.reduceEq, Int.reduceToNat, Int.reduceAdd, Int.reduceSub, Int.reduceMul, Int.reduceNeg, reduceCtorEq, Option.bind_some, Option.map_some, List.length_cons, List.length_nil, vcM, List.getElem?_toArray, List.getElem?_cons_zero, List.getElem?_cons_succ])
    have hW := new_writer w1
    have h42 := hW.ext.at h4 (fun h => h)
    (refine W_at c36_ok ?_; refine ⟨_, rfl, ?_⟩; simp (disch := first | omega | assumption | rfl | (simp only [vcS] <;> omega) | fail) only [↓ptV_l, ↓vcA, vcB, ↓vcD, vcE, ↓reduceIte, Nat.reduceEqDiff, Nat.reduceAdd, Nat.reduceMul, Nat.reduceLeDiff, Int.reduceLE, Int.reduceLT, Int.reduceEq, Int.reduceToNat, Int.reduceAdd, Int.reduceSub, Int.reduceMul, Int.reduceNeg, reduceCtorEq, Option.bind_some, Option.map_some, List.length_cons, List.length_nil, vcM, List.getElem?_toArray, List.getElem?_cons_zero, List.getElem?_cons_succ])
    generalize World.alloc _ _ = w2 at hW h42 ⊢
    generalize w1.heap.size = p5 at hW ⊢
    (refine W_at c36_ok ?_; refine ⟨_, rfl, ?_⟩; simp (disch := first | omega | assumption | rfl | (simp only [vcS] <;> omega) | fail) only [↓ptV_l, ↓vcA, vcB, ↓vcD, vcE, ↓reduceIte, Nat.reduceEqDiff, Nat.reduceAdd, Nat.reduceMul, Nat.reduceLeDiff, Int.reduceLE, Int.reduceLT, Int.reduceEq, Int.reduceToNat, Int.reduceAdd, Int.reduceSub, Int.reduceMul, Int.reduceNeg, reduceCtorEq, Option.bind_some, Option.map_some, List.length_cons, List.length_nil, vcM, List.getElem?_toArray, List.getElem?_cons_zero, List.getElem?_cons_succ, hg])
    refine callV_ret (hc w1 w2 p5 hE hW) ?_
    rintro _ w3 ⟨v3, hW3⟩
    first | (simp (disch := first | omega | assumption | rfl | (simp only [vcS] <;> omega) | fail) only [↓ptV_l, ↓vcA, vcB, ↓vcD, vcE, ↓reduceIte, Nat.reduceEqDiff, Nat.reduceAdd, Nat.reduceMul, Nat.reduceLeDiff, Int.reduceLE, Int.reduceLT, Int.reduceEq, Int.reduceToNat, Int.reduceAdd, Int.reduceSub, Int.reduceMul, Int.reduceNeg, reduceCtorEq, Option.bind_some, Option.map_some, List.length_cons, List.length_nil, vcM, List.getElem?_toArray, List.getElem?_cons_zero, List.getElem?_cons_succ]) | skip
    (refine W_at c36_ok ?_; refine ⟨_, rfl, ?_⟩; simp (disch := first | omega | assumption | rfl | (simp only [vcS] <;> omega) | fail) only [↓ptV_l, ↓vcA, vcB, ↓vcD, vcE, ↓reduceIte, Nat.reduceEqDiff, Nat.reduceAdd, Nat.reduceMul, Nat.reduceLeDiff, Int.reduceLE, Int.reduceLT, Int.reduceEq, Int.reduceToNat, Int.reduceAdd, Int.reduceSub, Int.reduceMul, Int.reduceNeg, reduceCtorEq, Option.bind_some, Option.map_some, List.length_cons, List.length_nil, vcM, List.getElem?_toArray, List.getElem?_cons_zero, List.getElem?_cons_succ])
    refine callV_ret (out_ok w3 p5 v3 _ hW3.at' (by omega)) ?_
    rintro u4 w4 ⟨o4, e4, n4⟩
    first | (simp (disch := first | omega | assumption | rfl | (simp only [vcS] <;> omega) | fail) only [↓ptV_l, ↓vcA, vcB, ↓vcD, vcE, ↓reduceIte, Nat.reduceEqDiff, Nat.reduceAdd, Nat.reduceMul, Nat.reduceLeDiff, Int.reduceLE, Int.reduceLT, Int.reduceEq, Int.reduceToNat, Int.reduceAdd, Int.reduceSub, Int.reduceMul, Int.reduceNeg, reduceCtorEq, Option.bind_some, Option.map_some, List.length_cons, List.length_nil, vcM, List.getElem?_toArray, List.getElem?_cons_zero, List.getElem?_cons_succ]) | skip
    refine callV_ret (double_ok w4 u4 _ o4.rd hb (by omega)) ?_
    rintro _ w5 ⟨rfl, e5⟩
    have h85 := e5.at (e4.at (hW3.ext.at h4 (fun h => h)) (fun h => h)) (fun h => h)
    have s32 : (bv (dblF bs)).toArray.size = 32 := by rw [bva_size, dblF_len]
    have o32 : okO (some (.cells (zc [(32, .int .u8 0)]) 36 (0, 0))) 0 32 = True := by simp only [okO, hzz]; simp
    first | (simp (disch := first | omega | assumption | rfl | (simp only [vcS] <;> omega) | fail) only [↓ptV_l, ↓vcA, vcB, ↓vcD, vcE, ↓reduceIte, Nat.reduceEqDiff, Nat.reduceAdd, Nat.reduceMul, Nat.reduceLeDiff, Int.reduceLE, Int.reduceLT, Int.reduceEq, Int.reduceToNat, Int.reduceAdd, Int.reduceSub, Int.reduceMul, Int.reduceNeg, reduceCtorEq, Option.bind_some, Option.map_some, List.length_cons, List.length_nil, vcM, List.getElem?_toArray, List.getElem?_cons_zero, List.getElem?_cons_succ, h85, s32, o32]) | skip
    refine ⟨bv_flat _, ?_⟩
    have d9 : (w5.putN p4 0 (bv (dblF bs)).toArray).heap[p4]? = some (.cells (bv (dblF bs)).toArray 36 (0, 0)) := by
      rw [heap_putN_eq h85, splice_all (by rw [s32]; rfl)]
    have hr32 : rdO (some (.cells (bv (dblF bs)).toArray 36 (0, 0))) 0 32 = some (bv (dblF bs)).toArray := rdO_all _ _ _ _ s32
    (refine W_at c36_ok ?_; refine ⟨_, rfl, ?_⟩; simp (disch := first | omega | assumption | rfl | (simp only [vcS] <;> omega) | fail) only [↓ptV_l, ↓vcA, vcB, ↓vcD, vcE, ↓reduceIte, Nat.reduceEqDiff, Nat.reduceAdd, Nat.reduceMul, Nat.reduceLeDiff, Int.reduceLE, Int.reduceLT, Int.reduceEq, Int.reduceToNat, Int.reduceAdd, Int.reduceSub, Int.reduceMul, Int.reduceNeg, reduceCtorEq, Option.bind_some, Option.map_some, List.length_cons, List.length_nil, vcM, List.getElem?_toArray, List.getElem?_cons_zero, List.getElem?_cons_succ, d9, hr32, Ret_returned])
    exact (hE.ext ((hW3.ext.ext e4).ext e5)).trans ((Keep.refl (fun g => g = p4) w5).putN _ fun _ => rfl) fun g hg e => by omega
end Go.Proofs
namespace Go.Proofs
open Go.Vc
set_option maxRecDepth 10000

def plF (x : TxI) : List Int := x.prev ++ lowF 4 x.idx
def sqF (x : TxI) : List Int := lowF 4 x.seq
theorem iC_pC {x : TxI} (hx : x.prev.length = 32) (sv wv : Value) : (iC x sv wv).extract 0 33 = pC x.prev x.idx := by
  apply Array.ext'
  have h33 : List.take 33 (bv x.prev) = bv x.prev := List.take_of_length_le (by rw [bv_len, hx]; omega)
  simp [iC, pC, List.take_append, bv_len, hx, h33]
theorem rd_pC {w : World} {g : Nat} {x : TxI} {sv wv : Value} {T : TypeId} (hx : x.prev.length = 32) (h : w.heap[g]? = some (.cells (iC x sv wv) T (0, 0))) : rdO w.heap[g]? 0 33 = some (pC x.prev x.idx) := by
  rw [h, rdO_some _ _ _ _ _ (by rw [iC_size hx]; omega), Nat.zero_add, iC_pC hx]
theorem plF_len {l : List TxI} (h : ∀ x ∈ l, x.prev.length = 32) : (l.flatMap plF).length = 36 * l.length := by
  induction l with
  | nil => rfl
  | cons x l ih =>
    have a := h x (by simp)
    have b := ih fun y hy => h y (by simp [hy])
    simp only [List.flatMap_cons, List.length_append, List.length_cons, plF, lowF_len, a] at b ⊢
    omega
theorem sqF_len (l : List TxI) : (l.flatMap sqF).length = 4 * l.length := by
  induction l with
  | nil => rfl
  | cons x l ih => simp only [List.flatMap_cons, List.length_append, List.length_cons, sqF, lowF_len, ih]; omega
set_option maxHeartbeats 3200000 in
theorem soutputs_ok (w0 w : World) (p : Nat) (v ov : Value) (l : List TxO) (h : WMid w0 w p v []) (hO : OusR w0 ov l) (hok : ∀ y ∈ l, y.Ok) (hn : l.length ≤ 100) (hs : ∀ y ∈ l, y.script.length ≤ 1000) :
    Calls Try.prog 41 #[.pointer (some ⟨p, 0, none⟩), ov] w (Ret fun _ w' => ∃ v', WMid w0 w' p v' (l.flatMap encO)) := by
  refine calls_of_cfg c41_ok (Nat.le_of_ble_eq_true rfl) ?_
  simp only [argE_nil, argE_cons, Nat.reduceAdd, Nat.zero_add]
  have hlO := hO.len
  (refine W_at c41_ok ?_; refine ⟨_, rfl, ?_⟩; simp (disch := first | omega | assumption | rfl | (simp only [vcS] <;> omega) | fail) only [↓ptV_l, ↓vcA, vcB, ↓vcD, vcE, ↓reduceIte, Nat.reduceEqDiff, Nat.reduceAdd, Nat.reduceMul, Nat.reduceLeDiff, Int.reduceLE, Int.reduceLT, Int.reduceEq, Int.reduceToNat, Int.reduceAdd, Int.reduceSub, Int.reduceMul, Int.reduceNeg, reduceCtorEq, Option.bind_some, Option.map_some, List.length_cons, List.length_nil, vcM, List.getElem?_toArray, List.getElem?_cons_zero, List.getElem?_cons_succ, hlO])
  have L2 : ∀ (k i : Nat) (wj : World) (vj : Value) (tl : Env), i + k = l.length → WMid w0 wj p vj ((l.take i).flatMap encO) →
      W Try.prog (Ret fun _ w' => ∃ v', WMid w0 w' p v' (l.flatMap encO)) 41 7 ((0, .pointer (some ⟨p, 0, none⟩)) :: (6, ov) :: (7, .int .i64 (l.length : Nat)) :: (8, .int .i64 (i : Nat)) :: tl) wj := by
    intro k
    induction k with
    | zero =>
      intro i wj vj tl hi hWj
      obtain rfl : i = l.length := by omega
      rw [List.take_length] at hWj
      have hno : ¬ ((l.length : Nat) : Int) < (l.length : Nat) := by omega
      (refine W_at c41_ok ?_; refine ⟨_, rfl, ?_⟩; simp (disch := first | omega | assumption | rfl | (simp only [vcS] <;> omega) | fail) only [↓ptV_l, ↓vcA, vcB, ↓vcD, vcE, ↓reduceIte, Nat.reduceEqDiff, Nat.reduceAdd, Nat.reduceMul, Nat.reduceLeDiff, Int.reduceLE, Int.reduceLT, Int.reduceEq, Int.reduceToNat, Int.reduceAdd, Int.reduceSub, Int.reduceMul, Int.reduceNeg, reduceCtorEq, Option.bind_some, Option.map_some, List.length_cons, List.length_nil, vcM, List.getElem?_toArray, List.getElem?_cons_zero, List.getElem?_cons_succ, hno])
      (refine W_at c41_ok ?_; refine ⟨_, rfl, ?_⟩; simp (disch := first | omega | assumption | rfl | (simp only [vcS] <;> omega) | fail) only [↓ptV_l, ↓vcA, vcB, ↓vcD, vcE, ↓reduceIte, Nat.reduceEqDiff, Nat.reduceAdd, Nat.reduceMul, Nat.reduceLeDiff, Int.reduceLE, Int.reduceLT, Int.reduceEq, Int.reduceToNat, Int.reduceAdd, Int.reduceSub, Int.reduceMul, Int.reduceNeg, reduceCtorEq, Option.bind_some, Option.map_some, List.length_cons, List.length_nil, vcM, List.getElem?_toArray, List.getElem?_cons_zero, List.getElem?_cons_succ])
      (refine W_at c41_ok ?_; refine ⟨_, rfl, ?_⟩; simp (disch := first | omega | assumption | rfl | (simp only [vcS] <;> omega) | fail) only [↓ptV_l, ↓vcA, vcB, ↓vcD, vcE, ↓reduceIte, Nat.reduceEqDiff, Nat.reduceAdd, Nat.reduceMul, Nat.reduceLeDiff, Int.reduceLE, Int.reduceLT, Int.reduceEq, Int.reduceToNat, Int.reduceAdd, Int.reduceSub, Int.reduceMul, Int.reduceNeg, reduceCtorEq, Option.bind_some, Option.map_some, List.length_cons, List.length_nil, vcM, List.getElem?_toArray, List.getElem?_cons_zero, List.getElem?_cons_succ, Ret_returned])
      exact ⟨vj, hWj⟩
    | succ k ih =>
      intro i wj vj tl hi hWj
      have hil : i < l.length := by omega
      have hlt : ((i : Nat) : Int) < (l.length : Nat) := by omega
      have b1 : 0 ≤ ((i : Nat) : Int) ∧ ((i : Nat) : Int) < (l.length : Nat) := by omega
      have hwi : IntKind.i64.wrap (((i : Nat) : Int) + 1) = ((i + 1 : Nat) : Int) := wrap_i64 (by omega) (by omega)
      obtain ⟨b, o, c, cs, ev, hr0, hcs, sv, ecs, hsvW⟩ := hO.at hil
      have hr := rdO_ext' hWj.ext hr0
      have hsv := hsvW.ext hWj.ext
      have hsv1 := hsv.one
      have hok := hok _ (List.getElem_mem hil)
      have hscl := hs _ (List.getElem_mem hil)
      have htk := take_flat encO hil
      have hbi := flatO_len (l := l.take i) (m := 1000) (fun x hx => hs x (List.mem_of_mem_take hx))
      have hbl : (l.take i).length ≤ 100 := by rw [List.length_take]; omega
      generalize l[i] = y at hsv hsvW ecs hok hscl htk
      subst ecs
      rw [ev]
      have c0 : (oC y sv)[0]? = some (.int .i64 y.val) := rfl
      have c1 : (oC y sv)[1]? = some sv := rfl
      have s2 : (oC y sv).size = 2 := rfl
      (refine W_at c41_ok ?_; refine ⟨_, rfl, ?_⟩; simp (disch := first | omega | assumption | rfl | (simp only [vcS] <;> omega) | fail) only [↓ptV_l, ↓vcA, vcB, ↓vcD, vcE, ↓reduceIte, Nat.reduceEqDiff, Nat.reduceAdd, Nat.reduceMul, Nat.reduceLeDiff, Int.reduceLE, Int.reduceLT, Int.reduceEq, Int.reduceToNat, Int.reduceAdd, Int.reduceSub, Int.reduceMul, Int.reduceNeg, reduceCtorEq, Option.bind_some, Option.map_some, List.length_cons, List.length_nil, vcM, List.getElem?_toArray, List.getElem?_cons_zero, List.getElem?_cons_succ, hlt])
      (refine W_at c41_ok ?_; refine ⟨_, rfl, ?_⟩; simp (disch := first | omega | assumption | rfl | (simp only [vcS] <;> omega) | fail) only [↓ptV_l, ↓vcA, vcB, ↓vcD, vcE, ↓reduceIte, Nat.reduceEqDiff, Nat.reduceAdd, Nat.reduceMul, Nat.reduceLeDiff, Int.reduceLE, Int.reduceLT, Int.reduceEq, Int.reduceToNat, Int.reduceAdd, Int.reduceSub, Int.reduceMul, Int.reduceNeg, reduceCtorEq, Option.bind_some, Option.map_some, List.length_cons, List.length_nil, vcM, List.getElem?_toArray, List.getElem?_cons_zero, List.getElem?_cons_succ])
      (refine W_at c41_ok ?_; refine ⟨_, rfl, ?_⟩; simp (disch := first | omega | assumption | rfl | (simp only [vcS] <;> omega) | fail) only [↓ptV_l, ↓vcA, vcB, ↓vcD, vcE, ↓reduceIte, Nat.reduceEqDiff, Nat.reduceAdd, Nat.reduceMul, Nat.reduceLeDiff, Int.reduceLE, Int.reduceLT, Int.reduceEq, Int.reduceToNat, Int.reduceAdd, Int.reduceSub, Int.reduceMul, Int.reduceNeg, reduceCtorEq, Option.bind_some, Option.map_some, List.length_cons, List.length_nil, vcM, List.getElem?_toArray, List.getElem?_cons_zero, List.getElem?_cons_succ, b1, Int.toNat_natCast, hr, s2])
      refine ⟨oC_flat hsv1, ?_⟩
      have hEb : Ext wj ((wj.alloc (.cells (zc [(1, .int .i64 0), (1, .slice none 0 0)]) 54)).putN wj.heap.size 0 (oC y sv)) := ((Keep.refl _ wj).alloc _).putN _ (by intro hh; exfalso; omega)
      have h9 : ((wj.alloc (.cells (zc [(1, .int .i64 0), (1, .slice none 0 0)]) 54)).putN wj.heap.size 0 (oC y sv)).heap[wj.heap.size]? = some (.cells (oC y sv) 54 (0, 0)) := by
        rw [heap_putN_eq (heap_new _ _ _ rfl), splice_all (by rfl)]
      generalize World.putN _ _ _ _ = wa at hEb h9 ⊢
      generalize wj.heap.size = p9 at h9 ⊢
      have hWa := hWj.grow hEb
      have hsva : Rd wa sv y.script := hsv.ext hEb
      have hv64 : IntKind.u64.wrap y.val = y.val % 18446744073709551616 := wrap_u64 _
      (refine W_at c41_ok ?_; refine ⟨_, rfl, ?_⟩; simp (disch := first | omega | assumption | rfl | (simp only [vcS] <;> omega) | fail) only [↓ptV_l, ↓vcA, vcB, ↓vcD, vcE, ↓reduceIte, Nat.reduceEqDiff, Nat.reduceAdd, Nat.reduceMul, Nat.reduceLeDiff, Int.reduceLE, Int.reduceLT, Int.reduceEq, Int.reduceToNat, Int.reduceAdd, Int.reduceSub, Int.reduceMul, Int.reduceNeg, reduceCtorEq, Option.bind_some, Option.map_some, List.length_cons, List.length_nil, vcM, List.getElem?_toArray, List.getElem?_cons_zero, List.getElem?_cons_succ, h9, c0, hv64])
      refine callV_ret (u64_ok wa p vj _ (y.val % 18446744073709551616) hWa.at' (by omega)) ?_
      intro _ wb hT
      have h9b := hT.at hWa.at' h9 (by decide) (by decide)
      obtain ⟨vb, hWb⟩ := hWa.go hT
      first | (simp (disch := first | omega | assumption | rfl | (simp only [vcS] <;> omega) | fail) only [↓ptV_l, ↓vcA, vcB, ↓vcD, vcE, ↓reduceIte, Nat.reduceEqDiff, Nat.reduceAdd, Nat.reduceMul, Nat.reduceLeDiff, Int.reduceLE, Int.reduceLT, Int.reduceEq, Int.reduceToNat, Int.reduceAdd, Int.reduceSub, Int.reduceMul, Int.reduceNeg, reduceCtorEq, Option.bind_some, Option.map_some, List.length_cons, List.length_nil, vcM, List.getElem?_toArray, List.getElem?_cons_zero, List.getElem?_cons_succ]) | skip
      have hsvb : Rd wb sv y.script := hsvW.ext hWb.ext
      (refine W_at c41_ok ?_; refine ⟨_, rfl, ?_⟩; simp (disch := first | omega | assumption | rfl | (simp only [vcS] <;> omega) | fail) only [↓ptV_l, ↓vcA, vcB, ↓vcD, vcE, ↓reduceIte, Nat.reduceEqDiff, Nat.reduceAdd, Nat.reduceMul, Nat.reduceLeDiff, Int.reduceLE, Int.reduceLT, Int.reduceEq, Int.reduceToNat, Int.reduceAdd, Int.reduceSub, Int.reduceMul, Int.reduceNeg, reduceCtorEq, Option.bind_some, Option.map_some, List.length_cons, List.length_nil, vcM, List.getElem?_toArray, List.getElem?_cons_zero, List.getElem?_cons_succ, h9b, c1])
      refine callV_ret (bytes_ok wb p vb _ sv y.script hWb.at' hsvb (hWb.rd hsvW) (by simp only [List.length_append, lowF_len]; omega)) ?_
      intro _ wc hT
      obtain ⟨vc, hWc⟩ := hWb.go hT
      first | (simp (disch := first | omega | assumption | rfl | (simp only [vcS] <;> omega) | fail) only [↓ptV_l, ↓vcA, vcB, ↓vcD, vcE, ↓reduceIte, Nat.reduceEqDiff, Nat.reduceAdd, Nat.reduceMul, Nat.reduceLeDiff, Int.reduceLE, Int.reduceLT, Int.reduceEq, Int.reduceToNat, Int.reduceAdd, Int.reduceSub, Int.reduceMul, Int.reduceNeg, reduceCtorEq, Option.bind_some, Option.map_some, List.length_cons, List.length_nil, vcM, List.getElem?_toArray, List.getElem?_cons_zero, List.getElem?_cons_succ]) | skip
      (refine W_at c41_ok ?_; refine ⟨_, rfl, ?_⟩; simp (disch := first | omega | assumption | rfl | (simp only [vcS] <;> omega) | fail) only [↓ptV_l, ↓vcA, vcB, ↓vcD, vcE, ↓reduceIte, Nat.reduceEqDiff, Nat.reduceAdd, Nat.reduceMul, Nat.reduceLeDiff, Int.reduceLE, Int.reduceLT, Int.reduceEq, Int.reduceToNat, Int.reduceAdd, Int.reduceSub, Int.reduceMul, Int.reduceNeg, reduceCtorEq, Option.bind_some, Option.map_some, List.length_cons, List.length_nil, vcM, List.getElem?_toArray, List.getElem?_cons_zero, List.getElem?_cons_succ, hwi])
      (refine W_at c41_ok ?_; refine ⟨_, rfl, ?_⟩; simp (disch := first | omega | assumption | rfl | (simp only [vcS] <;> omega) | fail) only [↓ptV_l, ↓vcA, vcB, ↓vcD, vcE, ↓reduceIte, Nat.reduceEqDiff, Nat.reduceAdd, Nat.reduceMul, Nat.reduceLeDiff, Int.reduceLE, Int.reduceLT, Int.reduceEq, Int.reduceToNat, Int.reduceAdd, Int.reduceSub, Int.reduceMul, Int.reduceNeg, reduceCtorEq, Option.bind_some, Option.map_some, List.length_cons, List.length_nil, vcM, List.getElem?_toArray, List.getElem?_cons_zero, List.getElem?_cons_succ])
      rw [← ev]
      refine ih (i + 1) wc vc _ (by omega) ?_
      rw [htk, show encO y = lowF 8 (y.val % 18446744073709551616) ++ (sizeF y.script.length ++ y.script) from rfl]
      simpa only [List.append_assoc] using hWc
  exact L2 l.length 0 w v _ (by omega) (by rw [List.take_zero]; exact h)
set_option maxHeartbeats 3200000 in
theorem wit1_ok (w0 w : World) (p b5 : Nat) (v iv ov : Value) (t : TxV) (h : WMid w0 w p v []) (h5 : w0.heap[b5]? = some (.cells (txC t iv ov) 26 (0, 0))) (hI : InsR w0 iv t.ins) (hok : ∀ x ∈ t.ins, x.Ok) (hn : t.ins.length ≤ 100) :
    Calls Try.prog 37 #[.pointer (some ⟨p, 0, none⟩), .pointer (some ⟨b5, 0, none⟩)] w (Ret fun _ w' => ∃ v', WMid w0 w' p v' (t.ins.flatMap plF)) := by
  refine calls_of_cfg c37_ok (Nat.le_of_ble_eq_true rfl) ?_
  simp only [argE_nil, argE_cons, Nat.reduceAdd, Nat.zero_add]
  have hlI := hI.len
  have t1 : (txC t iv ov)[1]? = some iv := rfl
  have h50 := h.ext.at h5 (fun h => h)
  (refine W_at c37_ok ?_; refine ⟨_, rfl, ?_⟩; simp (disch := first | omega | assumption | rfl | (simp only [vcS] <;> omega) | fail) only [↓ptV_l, ↓vcA, vcB, ↓vcD, vcE, ↓reduceIte, Nat.reduceEqDiff, Nat.reduceAdd, Nat.reduceMul, Nat.reduceLeDiff, Int.reduceLE, Int.reduceLT, Int.reduceEq, Int.reduceToNat, Int.reduceAdd, Int.reduceSub, Int.reduceMul, Int.reduceNeg, reduceCtorEq, Option.bind_some, Option.map_some, List.length_cons, List.length_nil, vcM, List.getElem?_toArray, List.getElem?_cons_zero, List.getElem?_cons_succ, h50, t1, hlI])
  have L2 : ∀ (k i : Nat) (wj : World) (vj : Value) (tl : Env), i + k = t.ins.length → WMid w0 wj p vj ((t.ins.take i).flatMap plF) →
      W Try.prog (Ret fun _ w' => ∃ v', WMid w0 w' p v' (t.ins.flatMap plF)) 37 6 ((0, .pointer (some ⟨p, 0, none⟩)) :: (6, iv) :: (7, .int .i64 (t.ins.length : Nat)) :: (8, .int .i64 (i : Nat)) :: tl) wj := by
    intro k
    induction k with
    | zero =>
      intro i wj vj tl hi hWj
      obtain rfl : i = t.ins.length := by omega
      rw [List.take_length] at hWj
      have hno : ¬ ((t.ins.length : Nat) : Int) < (t.ins.length : Nat) := by omega
      (refine W_at c37_ok ?_; refine ⟨_, rfl, ?_⟩; simp (disch := first | omega | assumption | rfl | (simp only [vcS] <;> omega) | fail) only [↓ptV_l, ↓vcA, vcB, ↓vcD, vcE, ↓reduceIte, Nat.reduceEqDiff, Nat.reduceAdd, Nat.reduceMul, Nat.reduceLeDiff, Int.reduceLE, Int.reduceLT, Int.reduceEq, Int.reduceToNat, Int.reduceAdd, Int.reduceSub, Int.reduceMul, Int.reduceNeg, reduceCtorEq, Option.bind_some, Option.map_some, List.length_cons, List.length_nil, vcM, List.getElem?_toArray, List.getElem?_cons_zero, List.getElem?_cons_succ, hno])
      (refine W_at c37_ok ?_; refine ⟨_, rfl, ?_⟩; simp (disch := first | omega | assumption | rfl | (simp only [vcS] <;> omega) | fail) only [↓ptV_l, ↓vcA, vcB, ↓vcD, vcE, ↓reduceIte, Nat.reduceEqDiff, Nat.reduceAdd, Nat.reduceMul, Nat.reduceLeDiff, Int.reduceLE, Int.reduceLT, Int.reduceEq, Int.reduceToNat, Int.reduceAdd, Int.reduceSub, Int.reduceMul, Int.reduceNeg, reduceCtorEq, Option.bind_some, Option.map_some, List.length_cons, List.length_nil, vcM, List.getElem?_toArray, List.getElem?_cons_zero, List.getElem?_cons_succ])
      (refine W_at c37_ok ?_; refine ⟨_, rfl, ?_⟩; simp (disch := first | omega | assumption | rfl | (simp only [vcS] <;> omega) | fail) only [↓ptV_l, ↓vcA, vcB, ↓vcD, vcE, ↓reduceIte, Nat.reduceEqDiff, Nat.reduceAdd, Nat.reduceMul, Nat.reduceLeDiff, Int.reduceLE, Int.reduceLT, Int.reduceEq, Int.reduceToNat, Int.reduceAdd, Int.reduceSub, Int.reduceMul, Int.reduceNeg, reduceCtorEq, Option.bind_some, Option.map_some, List.length_cons, List.length_nil, vcM, List.getElem?_toArray, List.getElem?_cons_zero, List.getElem?_cons_succ, Ret_returned])
      exact ⟨vj, hWj⟩
    | succ k ih =>
      intro i wj vj tl hi hWj
      have hil : i < t.ins.length := by omega
      have hlt : ((i : Nat) : Int) < (t.ins.length : Nat) := by omega
      have b1 : 0 ≤ ((i : Nat) : Int) ∧ ((i : Nat) : Int) < (t.ins.length : Nat) := by omega
      have hwi : IntKind.i64.wrap (((i : Nat) : Int) + 1) = ((i + 1 : Nat) : Int) := wrap_i64 (by omega) (by omega)
      obtain ⟨b, o, c, cs, ev, hr0, hcs, sv, wv, ecs, hsvW, hwvW⟩ := hI.at hil
      have hr := rdO_ext' hWj.ext hr0
      have hsv1 := hsvW.one
      have hwv1 := hwvW.one
      have hok := hok _ (List.getElem_mem hil)
      have htk := take_flat plF hil
      have hbi := plF_len (l := t.ins.take i) (fun x hx => (‹∀ x ∈ t.ins, x.Ok› x (List.mem_of_mem_take hx)).len)
      have hbl : (t.ins.take i).length ≤ 100 := by rw [List.length_take]; omega
      generalize t.ins[i] = y at hsvW hwvW ecs hok htk
      subst ecs
      rw [ev]
      have hpl := hok.len
      have s36 := iC_size hpl sv wv
      (refine W_at c37_ok ?_; refine ⟨_, rfl, ?_⟩; simp (disch := first | omega | assumption | rfl | (simp only [vcS] <;> omega) | fail) only [↓ptV_l, ↓vcA, vcB, ↓vcD, vcE, ↓reduceIte, Nat.reduceEqDiff, Nat.reduceAdd, Nat.reduceMul, Nat.reduceLeDiff, Int.reduceLE, Int.reduceLT, Int.reduceEq, Int.reduceToNat, Int.reduceAdd, Int.reduceSub, Int.reduceMul, Int.reduceNeg, reduceCtorEq, Option.bind_some, Option.map_some, List.length_cons, List.length_nil, vcM, List.getElem?_toArray, List.getElem?_cons_zero, List.getElem?_cons_succ, hlt])
      (refine W_at c37_ok ?_; refine ⟨_, rfl, ?_⟩; simp (disch := first | omega | assumption | rfl | (simp only [vcS] <;> omega) | fail) only [↓ptV_l, ↓vcA, vcB, ↓vcD, vcE, ↓reduceIte, Nat.reduceEqDiff, Nat.reduceAdd, Nat.reduceMul, Nat.reduceLeDiff, Int.reduceLE, Int.reduceLT, Int.reduceEq, Int.reduceToNat, Int.reduceAdd, Int.reduceSub, Int.reduceMul, Int.reduceNeg, reduceCtorEq, Option.bind_some, Option.map_some, List.length_cons, List.length_nil, vcM, List.getElem?_toArray, List.getElem?_cons_zero, List.getElem?_cons_succ])
      (refine W_at c37_ok ?_; refine ⟨_, rfl, ?_⟩; simp (disch := first | omega | assumption | rfl | (simp only [vcS] <;> omega) | fail) only [↓ptV_l, ↓vcA, vcB, ↓vcD, vcE, ↓reduceIte, Nat.reduceEqDiff, Nat.reduceAdd, Nat.reduceMul, Nat.reduceLeDiff, Int.reduceLE, Int.reduceLT, Int.reduceEq, Int.reduceToNat, Int.reduceAdd, Int.reduceSub, Int.reduceMul, Int.reduceNeg, reduceCtorEq, Option.bind_some, Option.map_some, List.length_cons, List.length_nil, vcM, List.getElem?_toArray, List.getElem?_cons_zero, List.getElem?_cons_succ, b1, Int.toNat_natCast, hr, s36])
      refine ⟨iC_flat hsv1 hwv1, by simp [zc, runs], ?_⟩
      have hEb : Ext wj ((wj.alloc (.cells (zc [(32, .int .u8 0), (1, .int .u32 0), (1, .slice none 0 0), (1, .int .u32 0), (1, .slice none 0 0)]) 50)).putN wj.heap.size 0 (iC y sv wv)) := ((Keep.refl _ wj).alloc _).putN _ (by intro hh; exfalso; omega)
      have h7 : ((wj.alloc (.cells (zc [(32, .int .u8 0), (1, .int .u32 0), (1, .slice none 0 0), (1, .int .u32 0), (1, .slice none 0 0)]) 50)).putN wj.heap.size 0 (iC y sv wv)).heap[wj.heap.size]? = some (.cells (iC y sv wv) 50 (0, 0)) := by
        rw [heap_putN_eq (heap_new _ _ _ rfl), splice_all (by rw [s36]; rfl)]
      generalize World.putN _ _ _ _ = wa at hEb h7 ⊢
      generalize wj.heap.size = p7 at h7 ⊢
      have hWa := hWj.grow hEb
      have hrp := rd_pC hpl h7
      (refine W_at c37_ok ?_; refine ⟨_, rfl, ?_⟩; simp (disch := first | omega | assumption | rfl | (simp only [vcS] <;> omega) | fail) only [↓ptV_l, ↓vcA, vcB, ↓vcD, vcE, ↓reduceIte, Nat.reduceEqDiff, Nat.reduceAdd, Nat.reduceMul, Nat.reduceLeDiff, Int.reduceLE, Int.reduceLT, Int.reduceEq, Int.reduceToNat, Int.reduceAdd, Int.reduceSub, Int.reduceMul, Int.reduceNeg, reduceCtorEq, Option.bind_some, Option.map_some, List.length_cons, List.length_nil, vcM, List.getElem?_toArray, List.getElem?_cons_zero, List.getElem?_cons_succ, hrp])
      refine callV_ret (place_ok wa p vj _ y.prev y.idx hWa.at' hpl hok.idx (by omega)) ?_
      intro _ wb hT
      obtain ⟨vb, hWb⟩ := hWa.go hT
      first | (simp (disch := first | omega | assumption | rfl | (simp only [vcS] <;> omega) | fail) only [↓ptV_l, ↓vcA, vcB, ↓vcD, vcE, ↓reduceIte, Nat.reduceEqDiff, Nat.reduceAdd, Nat.reduceMul, Nat.reduceLeDiff, Int.reduceLE, Int.reduceLT, Int.reduceEq, Int.reduceToNat, Int.reduceAdd, Int.reduceSub, Int.reduceMul, Int.reduceNeg, reduceCtorEq, Option.bind_some, Option.map_some, List.length_cons, List.length_nil, vcM, List.getElem?_toArray, List.getElem?_cons_zero, List.getElem?_cons_succ]) | skip
      (refine W_at c37_ok ?_; refine ⟨_, rfl, ?_⟩; simp (disch := first | omega | assumption | rfl | (simp only [vcS] <;> omega) | fail) only [↓ptV_l, ↓vcA, vcB, ↓vcD, vcE, ↓reduceIte, Nat.reduceEqDiff, Nat.reduceAdd, Nat.reduceMul, Nat.reduceLeDiff, Int.reduceLE, Int.reduceLT, Int.reduceEq, Int.reduceToNat, Int.reduceAdd, Int.reduceSub, Int.reduceMul, Int.reduceNeg, reduceCtorEq, Option.bind_some, Option.map_some, List.length_cons, List.length_nil, vcM, List.getElem?_toArray, List.getElem?_cons_zero, List.getElem?_cons_succ, hwi])
      (refine W_at c37_ok ?_; refine ⟨_, rfl, ?_⟩; simp (disch := first | omega | assumption | rfl | (simp only [vcS] <;> omega) | fail) only [↓ptV_l, ↓vcA, vcB, ↓vcD, vcE, ↓reduceIte, Nat.reduceEqDiff, Nat.reduceAdd, Nat.reduceMul, Nat.reduceLeDiff, Int.reduceLE, Int.reduceLT, Int.reduceEq, Int.reduceToNat, Int.reduceAdd, Int.reduceSub, Int.reduceMul, Int.reduceNeg, reduceCtorEq, Option.bind_some, Option.map_some, List.length_cons, List.length_nil, vcM, List.getElem?_toArray, List.getElem?_cons_zero, List.getElem?_cons_succ])
      rw [← ev]
      refine ih (i + 1) wb vb _ (by omega) ?_
      rw [htk, show plF y = y.prev ++ lowF 4 y.idx from rfl]
      exact hWb
  exact L2 t.ins.length 0 w v _ (by omega) (by rw [List.take_zero]; exact h)
set_option maxHeartbeats 3200000 in
theorem wit2_ok (w0 w : World) (p b5 : Nat) (v iv ov : Value) (t : TxV) (h : WMid w0 w p v []) (h5 : w0.heap[b5]? = some (.cells (txC t iv ov) 26 (0, 0))) (hI : InsR w0 iv t.ins) (hok : ∀ x ∈ t.ins, x.Ok) (hn : t.ins.length ≤ 100) :
    Calls Try.prog 39 #[.pointer (some ⟨p, 0, none⟩), .pointer (some ⟨b5, 0, none⟩)] w (Ret fun _ w' => ∃ v', WMid w0 w' p v' (t.ins.flatMap sqF)) := by
  refine calls_of_cfg c39_ok (Nat.le_of_ble_eq_true rfl) ?_
  simp only [argE_nil, argE_cons, Nat.reduceAdd, Nat.zero_add]
  have hlI := hI.len
  have t1 : (txC t iv ov)[1]? = some iv := rfl
  have h50 := h.ext.at h5 (fun h => h)
  (refine W_at c39_ok ?_; refine ⟨_, rfl, ?_⟩; simp (disch := first | omega | assumption | rfl | (simp only [vcS] <;> omega) | fail) only [↓ptV_l, ↓vcA, vcB, ↓vcD, vcE, ↓reduceIte, Nat.reduceEqDiff, Nat.reduceAdd, Nat.reduceMul, Nat.reduceLeDiff, Int.reduceLE, Int.reduceLT, Int.reduceEq, Int.reduceToNat, Int.reduceAdd, Int.reduceSub, Int.reduceMul, Int.reduceNeg, reduceCtorEq, Option.bind_some, Option.map_some, List.length_cons, List.length_nil, vcM, List.getElem?_toArray, List.getElem?_cons_zero, List.getElem?_cons_succ, h50, t1, hlI])
  have L2 : ∀ (k i : Nat) (wj : World) (vj : Value) (tl : Env), i + k = t.ins.length → WMid w0 wj p vj ((t.ins.take i).flatMap sqF) →
      W Try.prog (Ret fun _ w' => ∃ v', WMid w0 w' p v' (t.ins.flatMap sqF)) 39 6 ((0, .pointer (some ⟨p, 0, none⟩)) :: (6, iv) :: (7, .int .i64 (t.ins.length : Nat)) :: (8, .int .i64 (i : Nat)) :: tl) wj := by
    intro k
    induction k with
    | zero =>
      intro i wj vj tl hi hWj
      obtain rfl : i = t.ins.length := by omega
      rw [List.take_length] at hWj
      have hno : ¬ ((t.ins.length : Nat) : Int) < (t.ins.length : Nat) := by omega
      (refine W_at c39_ok ?_; refine ⟨_, rfl, ?_⟩; simp (disch := first | omega | assumption | rfl | (simp only [vcS] <;> omega) | fail) only [↓ptV_l, ↓vcA, vcB, ↓vcD, vcE, ↓reduceIte, Nat.reduceEqDiff, Nat.reduceAdd, Nat.reduceMul, Nat.reduceLeDiff, Int.reduceLE, Int.reduceLT, Int.reduceEq, Int.reduceToNat, Int.reduceAdd, Int.reduceSub, Int.reduceMul, Int.reduceNeg, reduceCtorEq, Option.bind_some, Option.map_some, List.length_cons, List.length_nil, vcM, List.getElem?_toArray, List.getElem?_cons_zero, List.getElem?_cons_succ, hno])
      (refine W_at c39_ok ?_; refine ⟨_, rfl, ?_⟩; simp (disch := first | omega | assumption | rfl | (simp only [vcS] <;> omega) | fail) only [↓ptV_l, ↓vcA, vcB, ↓vcD, vcE, ↓reduceIte, Nat.reduceEqDiff, Nat.reduceAdd, Nat.reduceMul, Nat.reduceLeDiff, Int.reduceLE, Int.reduceLT, Int.reduceEq, Int.reduceToNat, Int.reduceAdd, Int.reduceSub, Int.reduceMul, Int.reduceNeg, reduceCtorEq, Option.bind_some, Option.map_some, List.length_cons, List.length_nil, vcM, List.getElem?_toArray, List.getElem?_cons_zero, List.getElem?_cons_succ])
      (refine W_at c39_ok ?_; refine ⟨_, rfl, ?_⟩; simp (disch := first | omega | assumption | rfl | (simp only [vcS] <;> omega) | fail) only [↓ptV_l, ↓vcA, vcB, ↓vcD, vcE, ↓reduceIte, Nat.reduceEqDiff, Nat.reduceAdd, Nat.reduceMul, Nat.reduceLeDiff, Int.reduceLE, Int.reduceLT, Int.reduceEq, Int.reduceToNat, Int.reduceAdd, Int.reduceSub, Int.reduceMul, Int.reduceNeg, reduceCtorEq, Option.bind_some, Option.map_some, List.length_cons, List.length_nil, vcM, List.getElem?_toArray, List.getElem?_cons_zero, List.getElem?_cons_succ, Ret_returned])
      exact ⟨vj, hWj⟩
    | succ k ih =>
      intro i wj vj tl hi hWj
      have hil : i < t.ins.length := by omega
      have hlt : ((i : Nat) : Int) < (t.ins.length : Nat) := by omega
      have b1 : 0 ≤ ((i : Nat) : Int) ∧ ((i : Nat) : Int) < (t.ins.length : Nat) := by omega
      have hwi : IntKind.i64.wrap (((i : Nat) : Int) + 1) = ((i + 1 : Nat) : Int) := wrap_i64 (by omega) (by omega)
      obtain ⟨b, o, c, cs, ev, hr0, hcs, sv, wv, ecs, hsvW, hwvW⟩ := hI.at hil
      have hr := rdO_ext' hWj.ext hr0
      have hsv1 := hsvW.one
      have hwv1 := hwvW.one
      have hok := hok _ (List.getElem_mem hil)
      have htk := take_flat sqF hil
      have hbi := sqF_len (t.ins.take i)
      have hbl : (t.ins.take i).length ≤ 100 := by rw [List.length_take]; omega
      generalize t.ins[i] = y at hsvW hwvW ecs hok htk
      subst ecs
      rw [ev]
      have hpl := hok.len
      have s36 := iC_size hpl sv wv
      have c34 := iC_34 hpl sv wv
      (refine W_at c39_ok ?_; refine ⟨_, rfl, ?_⟩; simp (disch := first | omega | assumption | rfl | (simp only [vcS] <;> omega) | fail) only [↓ptV_l, ↓vcA, vcB, ↓vcD, vcE, ↓reduceIte, Nat.reduceEqDiff, Nat.reduceAdd, Nat.reduceMul, Nat.reduceLeDiff, Int.reduceLE, Int.reduceLT, Int.reduceEq, Int.reduceToNat, Int.reduceAdd, Int.reduceSub, Int.reduceMul, Int.reduceNeg, reduceCtorEq, Option.bind_some, Option.map_some, List.length_cons, List.length_nil, vcM, List.getElem?_toArray, List.getElem?_cons_zero, List.getElem?_cons_succ, hlt])
      (refine W_at c39_ok ?_; refine ⟨_, rfl, ?_⟩; simp (disch := first | omega | assumption | rfl | (simp only [vcS] <;> omega) | fail) only [↓ptV_l, ↓vcA, vcB, ↓vcD, vcE, ↓reduceIte, Nat.reduceEqDiff, Nat.reduceAdd, Nat.reduceMul, Nat.reduceLeDiff, Int.reduceLE, Int.reduceLT, Int.reduceEq, Int.reduceToNat, Int.reduceAdd, Int.reduceSub, Int.reduceMul, Int.reduceNeg, reduceCtorEq, Option.bind_some, Option.map_some, List.length_cons, List.length_nil, vcM, List.getElem?_toArray, List.getElem?_cons_zero, List.getElem?_cons_succ])
      (refine W_at c39_ok ?_; refine ⟨_, rfl, ?_⟩; simp (disch := first | omega | assumption | rfl | (simp only [vcS] <;> omega) | fail) only [↓ptV_l, ↓vcA, vcB, ↓vcD, vcE, ↓reduceIte, Nat.reduceEqDiff, Nat.reduceAdd, Nat.reduceMul, Nat.reduceLeDiff, Int.reduceLE, Int.reduceLT, Int.reduceEq, Int.reduceToNat, Int.reduceAdd, Int.reduceSub, Int.reduceMul, Int.reduceNeg, reduceCtorEq, Option.bind_some, Option.map_some, List.length_cons, List.length_nil, vcM, List.getElem?_toArray, List.getElem?_cons_zero, List.getElem?_cons_succ, b1, Int.toNat_natCast, hr, s36])
      refine ⟨iC_flat hsv1 hwv1, by simp [zc, runs], ?_⟩
      have hEb : Ext wj ((wj.alloc (.cells (zc [(32, .int .u8 0), (1, .int .u32 0), (1, .slice none 0 0), (1, .int .u32 0), (1, .slice none 0 0)]) 50)).putN wj.heap.size 0 (iC y sv wv)) := ((Keep.refl _ wj).alloc _).putN _ (by intro hh; exfalso; omega)
      have h7 : ((wj.alloc (.cells (zc [(32, .int .u8 0), (1, .int .u32 0), (1, .slice none 0 0), (1, .int .u32 0), (1, .slice none 0 0)]) 50)).putN wj.heap.size 0 (iC y sv wv)).heap[wj.heap.size]? = some (.cells (iC y sv wv) 50 (0, 0)) := by
        rw [heap_putN_eq (heap_new _ _ _ rfl), splice_all (by rw [s36]; rfl)]
      generalize World.putN _ _ _ _ = wa at hEb h7 ⊢
      generalize wj.heap.size = p7 at h7 ⊢
      have hWa := hWj.grow hEb
      (refine W_at c39_ok ?_; refine ⟨_, rfl, ?_⟩; simp (disch := first | omega | assumption | rfl | (simp only [vcS] <;> omega) | fail) only [↓ptV_l, ↓vcA, vcB, ↓vcD, vcE, ↓reduceIte, Nat.reduceEqDiff, Nat.reduceAdd, Nat.reduceMul, Nat.reduceLeDiff, Int.reduceLE, Int.reduceLT, Int.reduceEq, Int.reduceToNat, Int.reduceAdd, Int.reduceSub, Int.reduceMul, Int.reduceNeg, reduceCtorEq, Option.bind_some, Option.map_some, List.length_cons, List.length_nil, vcM, List.getElem?_toArray, List.getElem?_cons_zero, List.getElem?_cons_succ, h7, c34])
      refine callV_ret (u32_ok wa p vj _ y.seq hWa.at' (by omega) hok.seq) ?_
      intro _ wb hT
      obtain ⟨vb, hWb⟩ := hWa.go hT
      first | (simp (disch := first | omega | assumption | rfl | (simp only [vcS] <;> omega) | fail) only [↓ptV_l, ↓vcA, vcB, ↓vcD, vcE, ↓reduceIte, Nat.reduceEqDiff, Nat.reduceAdd, Nat.reduceMul, Nat.reduceLeDiff, Int.reduceLE, Int.reduceLT, Int.reduceEq, Int.reduceToNat, Int.reduceAdd, Int.reduceSub, Int.reduceMul, Int.reduceNeg, reduceCtorEq, Option.bind_some, Option.map_some, List.length_cons, List.length_nil, vcM, List.getElem?_toArray, List.getElem?_cons_zero, List.getElem?_cons_succ]) | skip
      (refine W_at c39_ok ?_; refine ⟨_, rfl, ?_⟩; simp (disch := first | omega | assumption | rfl | (simp only [vcS] <;> omega) | fail) only [↓ptV_l, ↓vcA, vcB, ↓vcD, vcE, ↓reduceIte, Nat.reduceEqDiff, Nat.reduceAdd, Nat.reduceMul, Nat.reduceLeDiff, Int.reduceLE, Int.reduceLT, Int.reduceEq, Int.reduceToNat, Int.reduceAdd, Int.reduceSub, Int.reduceMul, Int.reduceNeg, reduceCtorEq, Option.bind_some, Option.map_some, List.length_cons, List.length_nil, vcM, List.getElem?_toArray, List.getElem?_cons_zero, List.getElem?_cons_succ, hwi])
      (refine W_at c39_ok ?_; refine ⟨_, rfl, ?_⟩; simp (disch := first | omega | assumption | rfl | (simp only [vcS] <;> omega) | fail) only [↓ptV_l, ↓vcA, vcB, ↓vcD, vcE, ↓reduceIte, Nat.reduceEqDiff, Nat.reduceAdd, Nat.reduceMul, Nat.reduceLeDiff, Int.reduceLE, Int.reduceLT, Int.reduceEq, Int.reduceToNat, Int.reduceAdd, Int.reduceSub, Int.reduceMul, Int.reduceNeg, reduceCtorEq, Option.bind_some, Option.map_some, List.length_cons, List.length_nil, vcM, List.getElem?_toArray, List.getElem?_cons_zero, List.getElem?_cons_succ])
      rw [← ev]
      refine ih (i + 1) wb vb _ (by omega) ?_
      rw [htk, show sqF y = lowF 4 y.seq from rfl]
      exact hWb
  exact L2 t.ins.length 0 w v _ (by omega) (by rw [List.take_zero]; exact h)
set_option maxHeartbeats 1600000 in
theorem wit3_ok (w0 w : World) (p b14 : Nat) (v ov : Value) (l : List TxO) (h : WMid w0 w p v []) (h14 : w0.heap[b14]? = some (.cells #[ov] 23 (0, 0))) (hO : OusR w0 ov l) (hok : ∀ y ∈ l, y.Ok) (hn : l.length ≤ 100) (hs : ∀ y ∈ l, y.script.length ≤ 1000) :
    Calls Try.prog 40 #[.pointer (some ⟨p, 0, none⟩), .pointer (some ⟨b14, 0, none⟩)] w (Ret fun _ w' => ∃ v', WMid w0 w' p v' (l.flatMap encO)) := by
  refine calls_of_cfg c40_ok (Nat.le_of_ble_eq_true rfl) ?_
  simp only [argE_nil, argE_cons, Nat.reduceAdd, Nat.zero_add]
  have h50 := h.ext.at h14 (fun h => h)
  (refine W_at c40_ok ?_; refine ⟨_, rfl, ?_⟩; simp (disch := first | omega | assumption | rfl | (simp only [vcS] <;> omega) | fail) only [↓ptV_l, ↓vcA, vcB, ↓vcD, vcE, ↓reduceIte, Nat.reduceEqDiff, Nat.reduceAdd, Nat.reduceMul, Nat.reduceLeDiff, Int.reduceLE, Int.reduceLT, Int.reduceEq, Int.reduceToNat, Int.reduceAdd, Int.reduceSub, Int.reduceMul, Int.reduceNeg, reduceCtorEq, Option.bind_some, Option.map_some, List.length_cons, List.length_nil, vcM, List.getElem?_toArray, List.getElem?_cons_zero, List.getElem?_cons_succ, h50])
  refine callV_ret (soutputs_ok w0 w p v ov l h hO hok hn hs) ?_
  intro _ w1 hT
  first | (simp (disch := first | omega | assumption | rfl | (simp only [vcS] <;> omega) | fail) only [↓ptV_l, ↓vcA, vcB, ↓vcD, vcE, ↓reduceIte, Nat.reduceEqDiff, Nat.reduceAdd, Nat.reduceMul, Nat.reduceLeDiff, Int.reduceLE, Int.reduceLT, Int.reduceEq, Int.reduceToNat, Int.reduceAdd, Int.reduceSub, Int.reduceMul, Int.reduceNeg, reduceCtorEq, Option.bind_some, Option.map_some, List.length_cons, List.length_nil, vcM, List.getElem?_toArray, List.getElem?_cons_zero, List.getElem?_cons_succ]) | skip
  (refine W_at c40_ok ?_; refine ⟨_, rfl, ?_⟩; simp (disch := first | omega | assumption | rfl | (simp only [vcS] <;> omega) | fail) only [↓ptV_l, ↓vcA, vcB, ↓vcD, vcE, ↓reduceIte, Nat.reduceEqDiff, Nat.reduceAdd, Nat.reduceMul, Nat.reduceLeDiff, Int.reduceLE, Int.reduceLT, Int.reduceEq, Int.reduceToNat, Int.reduceAdd, Int.reduceSub, Int.reduceMul, Int.reduceNeg, reduceCtorEq, Option.bind_some, Option.map_some, List.length_cons, List.length_nil, vcM, List.getElem?_toArray, List.getElem?_cons_zero, List.getElem?_cons_succ, Ret_returned])
  exact hT
end Go.Proofs
namespace Go.Proofs
open Go.Vc
set_option maxRecDepth 10000

/-- What the digest of the newer way is over. -/
def witB (t : TxV) (x : TxI) (P Q M script : List Int) (value kind : Int) : List Int :=
  lowF 4 (t.ver % 4294967296) ++ P ++ Q ++ plF x ++ (sizeF script.length ++ script) ++ lowF 8 (value % 18446744073709551616) ++ lowF 4 x.seq ++ M ++ lowF 4 t.lock ++ lowF 4 kind
theorem WMid.raw {w0 w : World} {p : Nat} {v : Value} {bs : List Int} (h : WMid w0 w p v bs) {g : Nat} {P : List Int} {T : TypeId} (hg : w0.heap[g]? = some (.cells (bv P).toArray T (0, 0))) (hP : P.length = 32) (hl : bs.length ≤ 90000000) :
    Calls Try.prog 26 #[.pointer (some ⟨p, 0, none⟩), .slice (some ⟨g, 0, none⟩) 32 32] w (Ret fun _ w' => WTo w w' p v (bs ++ P)) := by
  have h1 := arr_rd (bs := P) (h.ext.at hg (fun h => h)) (by rw [hP]; decide)
  rw [hP] at h1
  exact raw_ok w p v bs _ P h.at' h1 (by omega)
set_option maxHeartbeats 3200000 in
theorem wit4_ok (w0 w : World) (p b5 b15 b16 b18 b7 b8 b17 b9 : Nat) (v iv ov sx sv wv : Value) (t : TxV) (x : TxI) (P Q M script : List Int) (value kind : Int) (h : WMid w0 w p v []) (h5 : w0.heap[b5]? = some (.cells (txC t iv ov) 26 (0, 0))) (h15 : w0.heap[b15]? = some (.cells (bv P).toArray 36 (0, 0))) (h16 : w0.heap[b16]? = some (.cells (bv Q).toArray 36 (0, 0)))
    (h18 : w0.heap[b18]? = some (.cells (iC x sv wv) 50 (0, 0))) (h7 : w0.heap[b7]? = some (.cells #[sx] 27 (0, 0))) (h8 : w0.heap[b8]? = some (.cells #[.int .i64 value] 2 (0, 0))) (h17 : w0.heap[b17]? = some (.cells (bv M).toArray 36 (0, 0))) (h9 : w0.heap[b9]? = some (.cells #[.int .u8 kind] 5 (0, 0)))
    (hP : P.length = 32) (hQ : Q.length = 32) (hM : M.length = 32) (hx : x.Ok) (hs : Rd w0 sx script) (hsl : script.length ≤ 1000) (hlk : 0 ≤ t.lock ∧ t.lock ≤ 4294967295) (hk : 0 ≤ kind ∧ kind ≤ 255) :
    Calls Try.prog 42 #[.pointer (some ⟨p, 0, none⟩), .pointer (some ⟨b5, 0, none⟩), .pointer (some ⟨b15, 0, none⟩), .pointer (some ⟨b16, 0, none⟩), .pointer (some ⟨b18, 0, none⟩), .pointer (some ⟨b7, 0, none⟩), .pointer (some ⟨b8, 0, none⟩), .pointer (some ⟨b17, 0, none⟩), .pointer (some ⟨b9, 0, none⟩)] w
      (Ret fun _ w' => ∃ v', WMid w0 w' p v' (witB t x P Q M script value kind)) := by
  refine calls_of_cfg c42_ok (Nat.le_of_ble_eq_true rfl) ?_
  simp only [argE_nil, argE_cons, Nat.reduceAdd, Nat.zero_add]
  have t0 : (txC t iv ov)[0]? = some (.int .i32 t.ver) := rfl
  have t3 : (txC t iv ov)[3]? = some (.int .u32 t.lock) := rfl
  have hv32 : IntKind.u32.wrap t.ver = t.ver % 4294967296 := wrap_u32 _
  have a5 := h.ext.at h5 (fun h => h)
  have hpl := hx.len
  have l4 := lowF_len 4 (t.ver % 4294967296)
  have lpx : (plF x).length = 36 := by simp only [plF, List.length_append, lowF_len, hpl]
  have lsz := (sizeF_len (n := (script.length : Int))).2
  have l8 := lowF_len 8 (value % 18446744073709551616)
  have lsq := lowF_len 4 x.seq
  have llk := lowF_len 4 t.lock
  (refine W_at c42_ok ?_; refine ⟨_, rfl, ?_⟩; simp (disch := first | omega | assumption | rfl | (simp only [vcS] <;> omega) | fail) only [↓ptV_l, ↓vcA, vcB, ↓vcD, vcE, ↓reduceIte, Nat.reduceEqDiff, Nat.reduceAdd, Nat.reduceMul, Nat.reduceLeDiff, Int.reduceLE, Int.reduceLT, Int.reduceEq, Int.reduceToNat, Int.reduceAdd, Int.reduceSub, Int.reduceMul, Int.reduceNeg, reduceCtorEq, Option.bind_some, Option.map_some, List.length_cons, List.length_nil, vcM, List.getElem?_toArray, List.getElem?_cons_zero, List.getElem?_cons_succ, a5, t0, hv32])
  refine callV_ret (u32_ok w p v [] (t.ver % 4294967296) h.at' (by simp) (by omega)) ?_
  intro _ w1 hT
  obtain ⟨v1, hW1⟩ := h.go hT
  first | (simp (disch := first | omega | assumption | rfl | (simp only [vcS] <;> omega) | fail) only [↓ptV_l, ↓vcA, vcB, ↓vcD, vcE, ↓reduceIte, Nat.reduceEqDiff, Nat.reduceAdd, Nat.reduceMul, Nat.reduceLeDiff, Int.reduceLE, Int.reduceLT, Int.reduceEq, Int.reduceToNat, Int.reduceAdd, Int.reduceSub, Int.reduceMul, Int.reduceNeg, reduceCtorEq, Option.bind_some, Option.map_some, List.length_cons, List.length_nil, vcM, List.getElem?_toArray, List.getElem?_cons_zero, List.getElem?_cons_succ]) | skip
  rw [List.nil_append] at hW1
  (refine W_at c42_ok ?_; refine ⟨_, rfl, ?_⟩; simp (disch := first | omega | assumption | rfl | (simp only [vcS] <;> omega) | fail) only [↓ptV_l, ↓vcA, vcB, ↓vcD, vcE, ↓reduceIte, Nat.reduceEqDiff, Nat.reduceAdd, Nat.reduceMul, Nat.reduceLeDiff, Int.reduceLE, Int.reduceLT, Int.reduceEq, Int.reduceToNat, Int.reduceAdd, Int.reduceSub, Int.reduceMul, Int.reduceNeg, reduceCtorEq, Option.bind_some, Option.map_some, List.length_cons, List.length_nil, vcM, List.getElem?_toArray, List.getElem?_cons_zero, List.getElem?_cons_succ, advA_0, Nat.sub_zero])
  refine callV_ret (hW1.raw h15 hP (by omega)) ?_
  intro _ w2 hT
  obtain ⟨v2, hW2⟩ := hW1.go hT
  first | (simp (disch := first | omega | assumption | rfl | (simp only [vcS] <;> omega) | fail) only [↓ptV_l, ↓vcA, vcB, ↓vcD, vcE, ↓reduceIte, Nat.reduceEqDiff, Nat.reduceAdd, Nat.reduceMul, Nat.reduceLeDiff, Int.reduceLE, Int.reduceLT, Int.reduceEq, Int.reduceToNat, Int.reduceAdd, Int.reduceSub, Int.reduceMul, Int.reduceNeg, reduceCtorEq, Option.bind_some, Option.map_some, List.length_cons, List.length_nil, vcM, List.getElem?_toArray, List.getElem?_cons_zero, List.getElem?_cons_succ]) | skip
  (refine W_at c42_ok ?_; refine ⟨_, rfl, ?_⟩; simp (disch := first | omega | assumption | rfl | (simp only [vcS] <;> omega) | fail) only [↓ptV_l, ↓vcA, vcB, ↓vcD, vcE, ↓reduceIte, Nat.reduceEqDiff, Nat.reduceAdd, Nat.reduceMul, Nat.reduceLeDiff, Int.reduceLE, Int.reduceLT, Int.reduceEq, Int.reduceToNat, Int.reduceAdd, Int.reduceSub, Int.reduceMul, Int.reduceNeg, reduceCtorEq, Option.bind_some, Option.map_some, List.length_cons, List.length_nil, vcM, List.getElem?_toArray, List.getElem?_cons_zero, List.getElem?_cons_succ, advA_0, Nat.sub_zero])
  refine callV_ret (hW2.raw h16 hQ (by simp only [List.length_append]; omega)) ?_
  intro _ w3 hT
  obtain ⟨v3, hW3⟩ := hW2.go hT
  first | (simp (disch := first | omega | assumption | rfl | (simp only [vcS] <;> omega) | fail) only [↓ptV_l, ↓vcA, vcB, ↓vcD, vcE, ↓reduceIte, Nat.reduceEqDiff, Nat.reduceAdd, Nat.reduceMul, Nat.reduceLeDiff, Int.reduceLE, Int.reduceLT, Int.reduceEq, Int.reduceToNat, Int.reduceAdd, Int.reduceSub, Int.reduceMul, Int.reduceNeg, reduceCtorEq, Option.bind_some, Option.map_some, List.length_cons, List.length_nil, vcM, List.getElem?_toArray, List.getElem?_cons_zero, List.getElem?_cons_succ]) | skip
  have r18 := rd_pC hpl (hW3.ext.at h18 (fun h => h))
  (refine W_at c42_ok ?_; refine ⟨_, rfl, ?_⟩; simp (disch := first | omega | assumption | rfl | (simp only [vcS] <;> omega) | fail) only [↓ptV_l, ↓vcA, vcB, ↓vcD, vcE, ↓reduceIte, Nat.reduceEqDiff, Nat.reduceAdd, Nat.reduceMul, Nat.reduceLeDiff, Int.reduceLE, Int.reduceLT, Int.reduceEq, Int.reduceToNat, Int.reduceAdd, Int.reduceSub, Int.reduceMul, Int.reduceNeg, reduceCtorEq, Option.bind_some, Option.map_some, List.length_cons, List.length_nil, vcM, List.getElem?_toArray, List.getElem?_cons_zero, List.getElem?_cons_succ, r18])
  refine callV_ret (place_ok w3 p v3 _ x.prev x.idx hW3.at' hpl hx.idx (by simp only [List.length_append]; omega)) ?_
  intro _ w4 hT
  obtain ⟨v4, hW4⟩ := hW3.go hT
  first | (simp (disch := first | omega | assumption | rfl | (simp only [vcS] <;> omega) | fail) only [↓ptV_l, ↓vcA, vcB, ↓vcD, vcE, ↓reduceIte, Nat.reduceEqDiff, Nat.reduceAdd, Nat.reduceMul, Nat.reduceLeDiff, Int.reduceLE, Int.reduceLT, Int.reduceEq, Int.reduceToNat, Int.reduceAdd, Int.reduceSub, Int.reduceMul, Int.reduceNeg, reduceCtorEq, Option.bind_some, Option.map_some, List.length_cons, List.length_nil, vcM, List.getElem?_toArray, List.getElem?_cons_zero, List.getElem?_cons_succ]) | skip
  have a7 := hW4.ext.at h7 (fun h => h)
  have e4 : x.prev ++ lowF 4 x.idx = plF x := rfl
  rw [e4] at hW4
  (refine W_at c42_ok ?_; refine ⟨_, rfl, ?_⟩; simp (disch := first | omega | assumption | rfl | (simp only [vcS] <;> omega) | fail) only [↓ptV_l, ↓vcA, vcB, ↓vcD, vcE, ↓reduceIte, Nat.reduceEqDiff, Nat.reduceAdd, Nat.reduceMul, Nat.reduceLeDiff, Int.reduceLE, Int.reduceLT, Int.reduceEq, Int.reduceToNat, Int.reduceAdd, Int.reduceSub, Int.reduceMul, Int.reduceNeg, reduceCtorEq, Option.bind_some, Option.map_some, List.length_cons, List.length_nil, vcM, List.getElem?_toArray, List.getElem?_cons_zero, List.getElem?_cons_succ, a7])
  refine callV_ret (bytes_ok w4 p v4 _ sx script hW4.at' (hs.ext hW4.ext) (hW4.rd hs) (by simp only [List.length_append]; omega)) ?_
  intro _ w5 hT
  obtain ⟨v5, hW5⟩ := hW4.go hT
  first | (simp (disch := first | omega | assumption | rfl | (simp only [vcS] <;> omega) | fail) only [↓ptV_l, ↓vcA, vcB, ↓vcD, vcE, ↓reduceIte, Nat.reduceEqDiff, Nat.reduceAdd, Nat.reduceMul, Nat.reduceLeDiff, Int.reduceLE, Int.reduceLT, Int.reduceEq, Int.reduceToNat, Int.reduceAdd, Int.reduceSub, Int.reduceMul, Int.reduceNeg, reduceCtorEq, Option.bind_some, Option.map_some, List.length_cons, List.length_nil, vcM, List.getElem?_toArray, List.getElem?_cons_zero, List.getElem?_cons_succ]) | skip
  have a8 := hW5.ext.at h8 (fun h => h)
  have hv64 : IntKind.u64.wrap value = value % 18446744073709551616 := wrap_u64 _
  (refine W_at c42_ok ?_; refine ⟨_, rfl, ?_⟩; simp (disch := first | omega | assumption | rfl | (simp only [vcS] <;> omega) | fail) only [↓ptV_l, ↓vcA, vcB, ↓vcD, vcE, ↓reduceIte, Nat.reduceEqDiff, Nat.reduceAdd, Nat.reduceMul, Nat.reduceLeDiff, Int.reduceLE, Int.reduceLT, Int.reduceEq, Int.reduceToNat, Int.reduceAdd, Int.reduceSub, Int.reduceMul, Int.reduceNeg, reduceCtorEq, Option.bind_some, Option.map_some, List.length_cons, List.length_nil, vcM, List.getElem?_toArray, List.getElem?_cons_zero, List.getElem?_cons_succ, a8, hv64])
  refine callV_ret (u64_ok w5 p v5 _ (value % 18446744073709551616) hW5.at' (by simp only [List.length_append]; omega)) ?_
  intro _ w6 hT
  obtain ⟨v6, hW6⟩ := hW5.go hT
  first | (simp (disch := first | omega | assumption | rfl | (simp only [vcS] <;> omega) | fail) only [↓ptV_l, ↓vcA, vcB, ↓vcD, vcE, ↓reduceIte, Nat.reduceEqDiff, Nat.reduceAdd, Nat.reduceMul, Nat.reduceLeDiff, Int.reduceLE, Int.reduceLT, Int.reduceEq, Int.reduceToNat, Int.reduceAdd, Int.reduceSub, Int.reduceMul, Int.reduceNeg, reduceCtorEq, Option.bind_some, Option.map_some, List.length_cons, List.length_nil, vcM, List.getElem?_toArray, List.getElem?_cons_zero, List.getElem?_cons_succ]) | skip
  have a18 := hW6.ext.at h18 (fun h => h)
  have c34 := iC_34 hpl sv wv
  (refine W_at c42_ok ?_; refine ⟨_, rfl, ?_⟩; simp (disch := first | omega | assumption | rfl | (simp only [vcS] <;> omega) | fail) only [↓ptV_l, ↓vcA, vcB, ↓vcD, vcE, ↓reduceIte, Nat.reduceEqDiff, Nat.reduceAdd, Nat.reduceMul, Nat.reduceLeDiff, Int.reduceLE, Int.reduceLT, Int.reduceEq, Int.reduceToNat, Int.reduceAdd, Int.reduceSub, Int.reduceMul, Int.reduceNeg, reduceCtorEq, Option.bind_some, Option.map_some, List.length_cons, List.length_nil, vcM, List.getElem?_toArray, List.getElem?_cons_zero, List.getElem?_cons_succ, a18, c34])
  refine callV_ret (u32_ok w6 p v6 _ x.seq hW6.at' (by simp only [List.length_append]; omega) hx.seq) ?_
  intro _ w7 hT
  obtain ⟨v7, hW7⟩ := hW6.go hT
  first | (simp (disch := first | omega | assumption | rfl | (simp only [vcS] <;> omega) | fail) only [↓ptV_l, ↓vcA, vcB, ↓vcD, vcE, ↓reduceIte, Nat.reduceEqDiff, Nat.reduceAdd, Nat.reduceMul, Nat.reduceLeDiff, Int.reduceLE, Int.reduceLT, Int.reduceEq, Int.reduceToNat, Int.reduceAdd, Int.reduceSub, Int.reduceMul, Int.reduceNeg, reduceCtorEq, Option.bind_some, Option.map_some, List.length_cons, List.length_nil, vcM, List.getElem?_toArray, List.getElem?_cons_zero, List.getElem?_cons_succ]) | skip
  (refine W_at c42_ok ?_; refine ⟨_, rfl, ?_⟩; simp (disch := first | omega | assumption | rfl | (simp only [vcS] <;> omega) | fail) only [↓ptV_l, ↓vcA, vcB, ↓vcD, vcE, ↓reduceIte, Nat.reduceEqDiff, Nat.reduceAdd, Nat.reduceMul, Nat.reduceLeDiff, Int.reduceLE, Int.reduceLT, Int.reduceEq, Int.reduceToNat, Int.reduceAdd, Int.reduceSub, Int.reduceMul, Int.reduceNeg, reduceCtorEq, Option.bind_some, Option.map_some, List.length_cons, List.length_nil, vcM, List.getElem?_toArray, List.getElem?_cons_zero, List.getElem?_cons_succ, advA_0, Nat.sub_zero])
  refine callV_ret (hW7.raw h17 hM (by simp only [List.length_append]; omega)) ?_
  intro _ w8 hT
  obtain ⟨v8, hW8⟩ := hW7.go hT
  first | (simp (disch := first | omega | assumption | rfl | (simp only [vcS] <;> omega) | fail) only [↓ptV_l, ↓vcA, vcB, ↓vcD, vcE, ↓reduceIte, Nat.reduceEqDiff, Nat.reduceAdd, Nat.reduceMul, Nat.reduceLeDiff, Int.reduceLE, Int.reduceLT, Int.reduceEq, Int.reduceToNat, Int.reduceAdd, Int.reduceSub, Int.reduceMul, Int.reduceNeg, reduceCtorEq, Option.bind_some, Option.map_some, List.length_cons, List.length_nil, vcM, List.getElem?_toArray, List.getElem?_cons_zero, List.getElem?_cons_succ]) | skip
  have a52 := hW8.ext.at h5 (fun h => h)
  (refine W_at c42_ok ?_; refine ⟨_, rfl, ?_⟩; simp (disch := first | omega | assumption | rfl | (simp only [vcS] <;> omega) | fail) only [↓ptV_l, ↓vcA, vcB, ↓vcD, vcE, ↓reduceIte, Nat.reduceEqDiff, Nat.reduceAdd, Nat.reduceMul, Nat.reduceLeDiff, Int.reduceLE, Int.reduceLT, Int.reduceEq, Int.reduceToNat, Int.reduceAdd, Int.reduceSub, Int.reduceMul, Int.reduceNeg, reduceCtorEq, Option.bind_some, Option.map_some, List.length_cons, List.length_nil, vcM, List.getElem?_toArray, List.getElem?_cons_zero, List.getElem?_cons_succ, a52, t3])
  refine callV_ret (u32_ok w8 p v8 _ t.lock hW8.at' (by simp only [List.length_append]; omega) hlk) ?_
  intro _ w9 hT
  obtain ⟨v9, hW9⟩ := hW8.go hT
  first | (simp (disch := first | omega | assumption | rfl | (simp only [vcS] <;> omega) | fail) only [↓ptV_l, ↓vcA, vcB, ↓vcD, vcE, ↓reduceIte, Nat.reduceEqDiff, Nat.reduceAdd, Nat.reduceMul, Nat.reduceLeDiff, Int.reduceLE, Int.reduceLT, Int.reduceEq, Int.reduceToNat, Int.reduceAdd, Int.reduceSub, Int.reduceMul, Int.reduceNeg, reduceCtorEq, Option.bind_some, Option.map_some, List.length_cons, List.length_nil, vcM, List.getElem?_toArray, List.getElem?_cons_zero, List.getElem?_cons_succ]) | skip
  have a9 := hW9.ext.at h9 (fun h => h)
  have wk : IntKind.u32.wrap kind = kind := by rw [wrap_u32]; omega
  (refine W_at c42_ok ?_; refine ⟨_, rfl, ?_⟩; simp (disch := first | omega | assumption | rfl | (simp only [vcS] <;> omega) | fail) only [↓ptV_l, ↓vcA, vcB, ↓vcD, vcE, ↓reduceIte, Nat.reduceEqDiff, Nat.reduceAdd, Nat.reduceMul, Nat.reduceLeDiff, Int.reduceLE, Int.reduceLT, Int.reduceEq, Int.reduceToNat, Int.reduceAdd, Int.reduceSub, Int.reduceMul, Int.reduceNeg, reduceCtorEq, Option.bind_some, Option.map_some, List.length_cons, List.length_nil, vcM, List.getElem?_toArray, List.getElem?_cons_zero, List.getElem?_cons_succ, a9, wk])
  refine callV_ret (u32_ok w9 p v9 _ kind hW9.at' (by simp only [List.length_append]; omega) (by omega)) ?_
  intro _ wA hT
  obtain ⟨vA, hWA⟩ := hW9.go hT
  first | (simp (disch := first | omega | assumption | rfl | (simp only [vcS] <;> omega) | fail) only [↓ptV_l, ↓vcA, vcB, ↓vcD, vcE, ↓reduceIte, Nat.reduceEqDiff, Nat.reduceAdd, Nat.reduceMul, Nat.reduceLeDiff, Int.reduceLE, Int.reduceLT, Int.reduceEq, Int.reduceToNat, Int.reduceAdd, Int.reduceSub, Int.reduceMul, Int.reduceNeg, reduceCtorEq, Option.bind_some, Option.map_some, List.length_cons, List.length_nil, vcM, List.getElem?_toArray, List.getElem?_cons_zero, List.getElem?_cons_succ]) | skip
  (refine W_at c42_ok ?_; refine ⟨_, rfl, ?_⟩; simp (disch := first | omega | assumption | rfl | (simp only [vcS] <;> omega) | fail) only [↓ptV_l, ↓vcA, vcB, ↓vcD, vcE, ↓reduceIte, Nat.reduceEqDiff, Nat.reduceAdd, Nat.reduceMul, Nat.reduceLeDiff, Int.reduceLE, Int.reduceLT, Int.reduceEq, Int.reduceToNat, Int.reduceAdd, Int.reduceSub, Int.reduceMul, Int.reduceNeg, reduceCtorEq, Option.bind_some, Option.map_some, List.length_cons, List.length_nil, vcM, List.getElem?_toArray, List.getElem?_cons_zero, List.getElem?_cons_succ, Ret_returned])
  exact ⟨vA, hWA⟩
theorem witB_byt {t : TxV} {x : TxI} {P Q M script : List Int} {value kind : Int} (hx : x.Ok) (hP : byt P) (hQ : byt Q) (hM : byt M) (hs : byt script) : byt (witB t x P Q M script value kind) := by
  unfold witB plF
  exact byt_app (byt_app (byt_app (byt_app (byt_app (byt_app (byt_app (byt_app (byt_app (lowF_byt _ _) hP) hQ) (byt_app hx.prev (lowF_byt _ _))) (byt_app (sizeF_byt' (by omega)) hs)) (lowF_byt _ _)) (lowF_byt _ _)) hM) (lowF_byt _ _)) (lowF_byt _ _)
theorem witB_len {t : TxV} {x : TxI} {P Q M script : List Int} {value kind : Int} (hx : x.Ok) (hP : P.length = 32) (hQ : Q.length = 32) (hM : M.length = 32) (hs : script.length ≤ 1000) : (witB t x P Q M script value kind).length ≤ 2000 := by
  have lsz := (sizeF_len (n := (script.length : Int))).2
  simp only [witB, plF, List.length_append, lowF_len, hx.len, hP, hQ, hM]; omega
end Go.Proofs
namespace Go.Proofs
open Go.Vc
set_option maxRecDepth 10000

structure WB (w wj : World) (b5 b7 b8 b9 b10 : Nat) (t : TxV) (iv ov sx : Value) (value kind : Int) : Prop where
  ext : Ext w wj
  lo : w.heap.size ≤ b10
  h5 : wj.heap[b5]? = some (.cells (txC t iv ov) 26 (0, 0))
  h7 : wj.heap[b7]? = some (.cells #[sx] 27 (0, 0))
  h8 : wj.heap[b8]? = some (.cells #[.int .i64 value] 2 (0, 0))
  h9 : wj.heap[b9]? = some (.cells #[.int .u8 kind] 5 (0, 0))
  h10 : wj.heap[b10]? = some (.cells (bv zeroD).toArray 36 (0, 0))
theorem WB.go {w wj wk : World} {b5 b7 b8 b9 b10 : Nat} {t : TxV} {iv ov sx : Value} {value kind : Int} (h : WB w wj b5 b7 b8 b9 b10 t iv ov sx value kind) (k : Ext wj wk) : WB w wk b5 b7 b8 b9 b10 t iv ov sx value kind :=
  ⟨h.ext.ext k, h.lo, k.at h.h5 (fun h => h), k.at h.h7 (fun h => h), k.at h.h8 (fun h => h), k.at h.h9 (fun h => h), k.at h.h10 (fun h => h)⟩
/-- The digest of the newer way, plainly. -/
def witP (t : TxV) (kind : Int) : List Int := if kind < 128 then dblF (t.ins.flatMap plF) else zeroD
def witQ (t : TxV) (kind : Int) : List Int := if kind < 128 ∧ kind % 32 ≠ 2 ∧ kind % 32 ≠ 3 then dblF (t.ins.flatMap sqF) else zeroD
def witS (t : TxV) (n : Nat) (kind : Int) : List TxO := if kind % 32 = 3 ∧ n < t.outs.length then (t.outs.drop n).take 1 else t.outs
def witM (t : TxV) (n : Nat) (kind : Int) : List Int := if kind % 32 ≠ 2 ∧ kind % 32 ≠ 3 ∨ kind % 32 = 3 ∧ n < t.outs.length then dblF ((witS t n kind).flatMap encO) else zeroD
def witF (t : TxV) (i : Int) (script : List Int) (value kind : Int) : List Int :=
  if h : 0 ≤ i ∧ i.toNat < t.ins.length then dblF (witB t (t.ins[i.toNat]'h.2) (witP t kind) (witQ t kind) (witM t i.toNat kind) script value kind) else oneD
theorem zeroD_len : zeroD.length = 32 := rfl
theorem zeroD_byt : byt zeroD := by
  intro x hx
  have := List.eq_of_mem_replicate hx
  omega
theorem ite_dbl {c : Prop} [Decidable c] (m : List Int) : (if c then dblF m else zeroD).length = 32 ∧ byt (if c then dblF m else zeroD) := by
  split
  · exact ⟨dblF_len _, dblF_byt _⟩
  · exact ⟨zeroD_len, zeroD_byt⟩
set_option maxHeartbeats 3200000 in
theorem wit_2 (w wj : World) (b5 b7 b8 b9 b10 b15 b16 b17 b18 : Nat) (t : TxV) (iv ov sx sv wv : Value) (value kind : Int) (x : TxI) (P Q M script : List Int) (hB : WB w wj b5 b7 b8 b9 b10 t iv ov sx value kind) (h15 : wj.heap[b15]? = some (.cells (bv P).toArray 36 (0, 0))) (h16 : wj.heap[b16]? = some (.cells (bv Q).toArray 36 (0, 0)))
    (h18 : wj.heap[b18]? = some (.cells (iC x sv wv) 50 (0, 0))) (h17 : wj.heap[b17]? = some (.cells (bv M).toArray 36 (0, 0)))
    (hP : P.length = 32) (hQ : Q.length = 32) (hM : M.length = 32) (bP : byt P) (bQ : byt Q) (bM : byt M) (hx : x.Ok) (hs : Rd w sx script) (hsb : byt script) (hsl : script.length ≤ 1000) (hlk : 0 ≤ t.lock ∧ t.lock ≤ 4294967295) (hk : 0 ≤ kind ∧ kind ≤ 255) (tl : Env) :
    W Try.prog (Ret fun u w' => u = .agg (bv (dblF (witB t x P Q M script value kind))).toArray ∧ Ext w w') 19 2
      ((5, .pointer (some ⟨b5, 0, none⟩)) :: (7, .pointer (some ⟨b7, 0, none⟩)) :: (8, .pointer (some ⟨b8, 0, none⟩)) :: (9, .pointer (some ⟨b9, 0, none⟩)) :: (10, .pointer (some ⟨b10, 0, none⟩)) :: (15, .pointer (some ⟨b15, 0, none⟩)) :: (16, .pointer (some ⟨b16, 0, none⟩)) :: (17, .pointer (some ⟨b17, 0, none⟩)) :: (18, .pointer (some ⟨b18, 0, none⟩)) :: tl) wj := by
  have l1 := witB_len (t := t) (value := value) (kind := kind) hx hP hQ hM hsl
  (refine W_at c19_ok ?_; refine ⟨_, rfl, ?_⟩; simp (disch := first | omega | assumption | rfl | (simp only [vcS] <;> omega) | fail) only [↓ptV_l, ↓vcA, vcB, ↓vcD, vcE, ↓reduceIte, Nat.reduceEqDiff, Nat.reduceAdd, Nat.reduceMul, Nat.reduceLeDiff, Int.reduceLE, Int.reduceLT, Int.reduceEq, Int.reduceToNat, Int.reduceAdd, Int.reduceSub, Int.reduceMul, Int.reduceNeg, reduceCtorEq, Option.bind_some, Option.map_some, List.length_cons, List.length_nil, vcM, List.getElem?_toArray, List.getElem?_cons_zero, List.getElem?_cons_succ])
  refine callV_ret (over_ok wj true 42 #[.pointer (some ⟨b5, 0, none⟩), .pointer (some ⟨b15, 0, none⟩), .pointer (some ⟨b16, 0, none⟩), .pointer (some ⟨b18, 0, none⟩), .pointer (some ⟨b7, 0, none⟩), .pointer (some ⟨b8, 0, none⟩), .pointer (some ⟨b17, 0, none⟩), .pointer (some ⟨b9, 0, none⟩)] (by kernel_rfl) (witB t x P Q M script value kind) (witB_byt hx bP bQ bM hsb) (by omega) fun w0 w1 p hE hW => ?_) ?_
  · have hB0 := hB.go hE
    exact wit4_ok w0 w1 p b5 b15 b16 b18 b7 b8 b17 b9 _ iv ov sx sv wv t x P Q M script value kind hW hB0.h5 (hE.at h15 (fun h => h)) (hE.at h16 (fun h => h)) (hE.at h18 (fun h => h)) hB0.h7 hB0.h8 (hE.at h17 (fun h => h)) hB0.h9 hP hQ hM hx (hs.ext hB0.ext) hsl hlk hk
  · rintro _ w5 ⟨rfl, e5⟩
    have hB5 := hB.go e5
    rw [if_pos rfl]
    have h85 := hB5.h10
    have lD := dblF_len (witB t x P Q M script value kind)
    generalize dblF (witB t x P Q M script value kind) = D at *
    have s32 : (bv D).toArray.size = 32 := by rw [bva_size, lD]
    have z32 : (bv zeroD).toArray.size = 32 := rfl
    have o32 : okO (some (.cells (bv zeroD).toArray 36 (0, 0))) 0 32 = True := by simp only [okO, z32]; simp
    first | (simp (disch := first | omega | assumption | rfl | (simp only [vcS] <;> omega) | fail) only [↓ptV_l, ↓vcA, vcB, ↓vcD, vcE, ↓reduceIte, Nat.reduceEqDiff, Nat.reduceAdd, Nat.reduceMul, Nat.reduceLeDiff, Int.reduceLE, Int.reduceLT, Int.reduceEq, Int.reduceToNat, Int.reduceAdd, Int.reduceSub, Int.reduceMul, Int.reduceNeg, reduceCtorEq, Option.bind_some, Option.map_some, List.length_cons, List.length_nil, vcM, List.getElem?_toArray, List.getElem?_cons_zero, List.getElem?_cons_succ, h85, s32, o32]) | skip
    refine ⟨bv_flat _, ?_⟩
    have d9 : (w5.putN b10 0 (bv D).toArray).heap[b10]? = some (.cells (bv D).toArray 36 (0, 0)) := by
      rw [heap_putN_eq h85, splice_all (by rw [s32]; rfl)]
    have hr32 : rdO (some (.cells (bv D).toArray 36 (0, 0))) 0 32 = some (bv D).toArray := rdO_all _ _ _ _ s32
    have hlo := hB.lo
    (refine W_at c19_ok ?_; refine ⟨_, rfl, ?_⟩; simp (disch := first | omega | assumption | rfl | (simp only [vcS] <;> omega) | fail) only [↓ptV_l, ↓vcA, vcB, ↓vcD, vcE, ↓reduceIte, Nat.reduceEqDiff, Nat.reduceAdd, Nat.reduceMul, Nat.reduceLeDiff, Int.reduceLE, Int.reduceLT, Int.reduceEq, Int.reduceToNat, Int.reduceAdd, Int.reduceSub, Int.reduceMul, Int.reduceNeg, reduceCtorEq, Option.bind_some, Option.map_some, List.length_cons, List.length_nil, vcM, List.getElem?_toArray, List.getElem?_cons_zero, List.getElem?_cons_succ, d9, hr32, Ret_returned])
    exact hB5.ext.trans ((Keep.refl (fun g => g = b10) w5).putN _ fun _ => rfl) fun g hg e => by omega
theorem ListR.cut1 {α : Type} {R : World → Array Value → α → Prop} {size n c : Nat} {w : World} {q : Option Addr} {l : List α} (h : ListR R size w (.slice q n c) l) {k : Nat} (hk : k < l.length) : ListR R size w (.slice (advA size q c k) (k + 1 - k) (c - k)) ((l.drop k).take 1) := by
  obtain ⟨b, o, c', cs, e, hr, hc, hR⟩ := h.at hk
  obtain ⟨_, _, _, _, ⟨q', c2, e2, hc2⟩, hm, _⟩ := h
  injection e with e3 e4 e5
  injection e2 with e6 e7 e8
  subst e3 e5
  have hcl : l.length ≤ c := by omega
  have hne : ¬ c = k := by omega
  have hl1 : ((l.drop k).take 1).length = 1 := by rw [List.length_take, List.length_drop]; omega
  have ha : advA size (some ⟨b, o, none⟩) c k = some ⟨b, o + k * size, none⟩ := by
    unfold advA
    rw [if_neg hne]
    simp only [Option.map_some, Addr.add]
    split
    · rename_i h0; rw [h0]; rfl
    · rfl
  rw [ha, show k + 1 - k = 1 by omega]
  refine ⟨[cs], by rw [hl1]; rfl, fun x hx => by simp at hx; subst hx; exact hc, ?_, ⟨_, _, by rw [hl1], by omega⟩, by rw [hl1]; decide, fun i a b' => ?_⟩
  · simp only [rdS]
    rw [if_neg (by omega), Nat.one_mul, rdN_heap, hr]
    simp
  · have hi : i = 0 := by simp at a; exact a
    subst hi
    simpa using hR
set_option maxHeartbeats 3200000 in
theorem wit_3 (w wj : World) (b5 b7 b8 b9 b10 b15 b16 b17 : Nat) (t : TxV) (iv ov sx : Value) (value kind : Int) (n : Nat) (hn : n < t.ins.length) (P Q M script : List Int) (hB : WB w wj b5 b7 b8 b9 b10 t iv ov sx value kind) (h15 : wj.heap[b15]? = some (.cells (bv P).toArray 36 (0, 0))) (h16 : wj.heap[b16]? = some (.cells (bv Q).toArray 36 (0, 0)))
    (h17 : wj.heap[b17]? = some (.cells (bv M).toArray 36 (0, 0))) (hI : InsR w iv t.ins) (hok : ∀ x ∈ t.ins, x.Ok)
    (hP : P.length = 32) (hQ : Q.length = 32) (hM : M.length = 32) (bP : byt P) (bQ : byt Q) (bM : byt M) (hs : Rd w sx script) (hsb : byt script) (hsl : script.length ≤ 1000) (hlk : 0 ≤ t.lock ∧ t.lock ≤ 4294967295) (hk : 0 ≤ kind ∧ kind ≤ 255) (tl : Env) :
    W Try.prog (Ret fun u w' => u = .agg (bv (dblF (witB t t.ins[n] P Q M script value kind))).toArray ∧ Ext w w') 19 3
      ((1, .int .i64 (n : Nat)) :: (5, .pointer (some ⟨b5, 0, none⟩)) :: (7, .pointer (some ⟨b7, 0, none⟩)) :: (8, .pointer (some ⟨b8, 0, none⟩)) :: (9, .pointer (some ⟨b9, 0, none⟩)) :: (10, .pointer (some ⟨b10, 0, none⟩)) :: (15, .pointer (some ⟨b15, 0, none⟩)) :: (16, .pointer (some ⟨b16, 0, none⟩)) :: (17, .pointer (some ⟨b17, 0, none⟩)) :: tl) wj := by
  obtain ⟨b, o, c, cs, ev, hr0, hcs, sv, wv, ecs, hsvW, hwvW⟩ := hI.at hn
  have hr := rdO_ext' hB.ext hr0
  have hsv1 := hsvW.one
  have hwv1 := hwvW.one
  have hx := hok _ (List.getElem_mem hn)
  have b1 : 0 ≤ ((n : Nat) : Int) ∧ ((n : Nat) : Int) < (t.ins.length : Nat) := by omega
  generalize t.ins[n] = x at hsvW hwvW ecs hx ⊢
  subst ecs
  have hB5 := hB.h5
  rw [ev] at hB5
  have t1 : (txC t (.slice (some ⟨b, o, none⟩) t.ins.length c) ov)[1]? = some (.slice (some ⟨b, o, none⟩) t.ins.length c) := rfl
  have s36 := iC_size hx.len sv wv
  (refine W_at c19_ok ?_; refine ⟨_, rfl, ?_⟩; simp (disch := first | omega | assumption | rfl | (simp only [vcS] <;> omega) | fail) only [↓ptV_l, ↓vcA, vcB, ↓vcD, vcE, ↓reduceIte, Nat.reduceEqDiff, Nat.reduceAdd, Nat.reduceMul, Nat.reduceLeDiff, Int.reduceLE, Int.reduceLT, Int.reduceEq, Int.reduceToNat, Int.reduceAdd, Int.reduceSub, Int.reduceMul, Int.reduceNeg, reduceCtorEq, Option.bind_some, Option.map_some, List.length_cons, List.length_nil, vcM, List.getElem?_toArray, List.getElem?_cons_zero, List.getElem?_cons_succ, hB5, t1, b1, Int.toNat_natCast, hr, s36])
  refine ⟨iC_flat hsv1 hwv1, by simp [zc, runs], ?_⟩
  have hEb : Ext wj ((wj.alloc (.cells (zc [(32, .int .u8 0), (1, .int .u32 0), (1, .slice none 0 0), (1, .int .u32 0), (1, .slice none 0 0)]) 50)).putN wj.heap.size 0 (iC x sv wv)) := ((Keep.refl _ wj).alloc _).putN _ (by intro hh; exfalso; omega)
  have h18 : ((wj.alloc (.cells (zc [(32, .int .u8 0), (1, .int .u32 0), (1, .slice none 0 0), (1, .int .u32 0), (1, .slice none 0 0)]) 50)).putN wj.heap.size 0 (iC x sv wv)).heap[wj.heap.size]? = some (.cells (iC x sv wv) 50 (0, 0)) := by
    rw [heap_putN_eq (heap_new _ _ _ rfl), splice_all (by rw [s36]; rfl)]
  generalize World.putN _ _ _ _ = wa at hEb h18 ⊢
  generalize wj.heap.size = b18 at h18 ⊢
  exact wit_2 w wa b5 b7 b8 b9 b10 b15 b16 b17 b18 t iv ov sx sv wv value kind x P Q M script (hB.go hEb) (hEb.at h15 (fun h => h)) (hEb.at h16 (fun h => h)) h18 (hEb.at h17 (fun h => h)) hP hQ hM bP bQ bM hx hs hsb hsl hlk hk _
/-- A digest is put where it stays. -/
theorem put_new {wj : World} {T : TypeId} {D : List Int} (hD : D.length = 32) :
    Ext wj ((wj.alloc (.cells (zc [(32, .int .u8 0)]) T)).putN wj.heap.size 0 (bv D).toArray) ∧ ((wj.alloc (.cells (zc [(32, .int .u8 0)]) T)).putN wj.heap.size 0 (bv D).toArray).heap[wj.heap.size]? = some (.cells (bv D).toArray T (0, 0)) :=
  ⟨((Keep.refl _ wj).alloc _).putN _ (by intro hh; exfalso; omega), by rw [heap_putN_eq (heap_new _ _ _ rfl), splice_all (by rw [bva_size, hD]; rfl)]⟩
set_option maxHeartbeats 3200000 in
theorem wit_4 (w wj : World) (b5 b7 b8 b9 b10 b14 b15 b16 : Nat) (t : TxV) (iv ov so sx : Value) (value kind : Int) (n : Nat) (hn : n < t.ins.length) (P Q script : List Int) (hB : WB w wj b5 b7 b8 b9 b10 t iv ov sx value kind) (h15 : wj.heap[b15]? = some (.cells (bv P).toArray 36 (0, 0))) (h16 : wj.heap[b16]? = some (.cells (bv Q).toArray 36 (0, 0)))
    (h14 : wj.heap[b14]? = some (.cells #[so] 23 (0, 0))) (hS : OusR w so (witS t n kind)) (hT : TxR w iv ov t) (hok : t.Ok) (hf : t.Few 100 1000)
    (hP : P.length = 32) (hQ : Q.length = 32) (bP : byt P) (bQ : byt Q) (hs : Rd w sx script) (hsb : byt script) (hsl : script.length ≤ 1000) (hk : 0 ≤ kind ∧ kind ≤ 255) (tl : Env) :
    W Try.prog (Ret fun u w' => u = .agg (bv (dblF (witB t t.ins[n] P Q (witM t n kind) script value kind))).toArray ∧ Ext w w') 19 4
      ((1, .int .i64 (n : Nat)) :: (5, .pointer (some ⟨b5, 0, none⟩)) :: (7, .pointer (some ⟨b7, 0, none⟩)) :: (8, .pointer (some ⟨b8, 0, none⟩)) :: (9, .pointer (some ⟨b9, 0, none⟩)) :: (10, .pointer (some ⟨b10, 0, none⟩)) :: (11, .int .u8 (kind % 32)) :: (13, .bool (decide (kind % 32 ≠ 2 ∧ kind % 32 ≠ 3))) :: (14, .pointer (some ⟨b14, 0, none⟩)) :: (15, .pointer (some ⟨b15, 0, none⟩)) :: (16, .pointer (some ⟨b16, 0, none⟩)) :: tl) wj := by
  have hB5 := hB.h5
  have t2 : (txC t iv ov)[2]? = some ov := rfl
  have hlo := ListR.len hT.outs
  have hSok : ∀ y ∈ witS t n kind, y ∈ t.outs := by
    intro y hy; unfold witS at hy; split at hy
    · exact List.mem_of_mem_drop (List.mem_of_mem_take hy)
    · exact hy
  have hSl : (witS t n kind).length ≤ 100 := by
    have := hf.outs
    unfold witS; split
    · rw [List.length_take]; omega
    · exact this
  have hfl := flatO_len (l := witS t n kind) (m := 1000) (fun y hy => hf.oscr y (hSok y hy))
  have key : ∀ is : Bool, (is = true ↔ (kind % 32 ≠ 2 ∧ kind % 32 ≠ 3 ∨ kind % 32 = 3 ∧ n < t.outs.length)) → Calls Try.prog 36 #[.bool is, .func (.func 40) #[] #[.pointer (some ⟨b14, 0, none⟩)]] wj (Ret fun u wk => u = .agg (bv (witM t n kind)).toArray ∧ Ext wj wk) := by
    intro is his
    have h0 := over_ok wj is 40 #[.pointer (some ⟨b14, 0, none⟩)] (by kernel_rfl) ((witS t n kind).flatMap encO) (flat_byt fun y hy => byt_app (lowF_byt _ _) (byt_app (sizeF_byt' (by omega)) (hok.outs y (hSok y hy)).script)) (by omega) fun w0 w1 p hE hW => wit3_ok w0 w1 p b14 _ so _ hW (hE.at h14 (fun h => h)) (ListR.ext hS (hB.ext.ext hE) fun _ _ h => h.ext (hB.ext.ext hE)) (fun y hy => hok.outs y (hSok y hy)) hSl (fun y hy => hf.oscr y (hSok y hy))
    have e : (if is = true then dblF ((witS t n kind).flatMap encO) else zeroD) = witM t n kind := by
      unfold witM
      by_cases hc : kind % 32 ≠ 2 ∧ kind % 32 ≠ 3 ∨ kind % 32 = 3 ∧ n < t.outs.length
      · rw [if_pos hc, if_pos (his.2 hc)]
      · rw [if_neg hc, if_neg fun h => hc (his.1 h)]
    rw [e] at h0
    exact h0
  have hMl := ite_dbl (c := kind % 32 ≠ 2 ∧ kind % 32 ≠ 3 ∨ kind % 32 = 3 ∧ n < t.outs.length) ((witS t n kind).flatMap encO)
  have fin : ∀ wk, Ext wj wk → ∀ tl, W Try.prog (Ret fun u w' => u = .agg (bv (dblF (witB t t.ins[n] P Q (witM t n kind) script value kind))).toArray ∧ Ext w w') 19 3
      ((1, .int .i64 (n : Nat)) :: (5, .pointer (some ⟨b5, 0, none⟩)) :: (7, .pointer (some ⟨b7, 0, none⟩)) :: (8, .pointer (some ⟨b8, 0, none⟩)) :: (9, .pointer (some ⟨b9, 0, none⟩)) :: (10, .pointer (some ⟨b10, 0, none⟩)) :: (15, .pointer (some ⟨b15, 0, none⟩)) :: (16, .pointer (some ⟨b16, 0, none⟩)) :: (17, .pointer (some ⟨wk.heap.size, 0, none⟩)) :: tl) ((wk.alloc (.cells (zc [(32, .int .u8 0)]) 36)).putN wk.heap.size 0 (bv (witM t n kind)).toArray) := by
    intro wk hk0 tl
    obtain ⟨hE, h17⟩ := put_new (wj := wk) (T := 36) (D := witM t n kind) hMl.1
    have hEk := hk0.ext hE
    exact wit_3 w _ b5 b7 b8 b9 b10 b15 b16 _ t iv ov sx value kind n hn P Q (witM t n kind) script (hB.go hEk) (hEk.at h15 (fun h => h)) (hEk.at h16 (fun h => h)) h17 hT.ins hok.ins hP hQ hMl.1 bP bQ hMl.2 hs hsb hsl hok.lock hk tl
  have s32 : (bv (witM t n kind)).toArray.size = 32 := by rw [bva_size]; exact hMl.1
  have hfl := bv_flat (witM t n kind)
  by_cases ha : kind % 32 ≠ 2 ∧ kind % 32 ≠ 3
  · have hd : decide (kind % 32 ≠ 2 ∧ kind % 32 ≠ 3) = true := decide_eq_true ha
    rw [hd]
    (refine W_at c19_ok ?_; refine ⟨_, rfl, ?_⟩; simp (disch := first | omega | assumption | rfl | (simp only [vcS] <;> omega) | fail) only [↓ptV_l, ↓vcA, vcB, ↓vcD, vcE, ↓reduceIte, Nat.reduceEqDiff, Nat.reduceAdd, Nat.reduceMul, Nat.reduceLeDiff, Int.reduceLE, Int.reduceLT, Int.reduceEq, Int.reduceToNat, Int.reduceAdd, Int.reduceSub, Int.reduceMul, Int.reduceNeg, reduceCtorEq, Option.bind_some, Option.map_some, List.length_cons, List.length_nil, vcM, List.getElem?_toArray, List.getElem?_cons_zero, List.getElem?_cons_succ])
    refine callV_ret (key true ⟨fun _ => .inl ha, fun _ => rfl⟩) ?_
    rintro _ wk ⟨rfl, hk1⟩
    first | (simp (disch := first | omega | assumption | rfl | (simp only [vcS] <;> omega) | fail) only [↓ptV_l, ↓vcA, vcB, ↓vcD, vcE, ↓reduceIte, Nat.reduceEqDiff, Nat.reduceAdd, Nat.reduceMul, Nat.reduceLeDiff, Int.reduceLE, Int.reduceLT, Int.reduceEq, Int.reduceToNat, Int.reduceAdd, Int.reduceSub, Int.reduceMul, Int.reduceNeg, reduceCtorEq, Option.bind_some, Option.map_some, List.length_cons, List.length_nil, vcM, List.getElem?_toArray, List.getElem?_cons_zero, List.getElem?_cons_succ, s32, hfl]) | skip
    exact fin wk hk1 _
  · have hd : decide (kind % 32 ≠ 2 ∧ kind % 32 ≠ 3) = false := decide_eq_false ha
    rw [hd]
    by_cases h3 : kind % 32 = 3
    · have h3d : decide (kind % 32 = 3) = true := decide_eq_true h3
      by_cases hl : n < t.outs.length
      · have hl' : ((n : Nat) : Int) < (t.outs.length : Nat) := by omega
        (refine W_at c19_ok ?_; refine ⟨_, rfl, ?_⟩; simp (disch := first | omega | assumption | rfl | (simp only [vcS] <;> omega) | fail) only [↓ptV_l, ↓vcA, vcB, ↓vcD, vcE, ↓reduceIte, Nat.reduceEqDiff, Nat.reduceAdd, Nat.reduceMul, Nat.reduceLeDiff, Int.reduceLE, Int.reduceLT, Int.reduceEq, Int.reduceToNat, Int.reduceAdd, Int.reduceSub, Int.reduceMul, Int.reduceNeg, reduceCtorEq, Option.bind_some, Option.map_some, List.length_cons, List.length_nil, vcM, List.getElem?_toArray, List.getElem?_cons_zero, List.getElem?_cons_succ, h3d, hB5, t2, hlo, hl'])
        refine callV_ret (key true ⟨fun _ => .inr ⟨h3, hl⟩, fun _ => rfl⟩) ?_
        rintro _ wk ⟨rfl, hk1⟩
        first | (simp (disch := first | omega | assumption | rfl | (simp only [vcS] <;> omega) | fail) only [↓ptV_l, ↓vcA, vcB, ↓vcD, vcE, ↓reduceIte, Nat.reduceEqDiff, Nat.reduceAdd, Nat.reduceMul, Nat.reduceLeDiff, Int.reduceLE, Int.reduceLT, Int.reduceEq, Int.reduceToNat, Int.reduceAdd, Int.reduceSub, Int.reduceMul, Int.reduceNeg, reduceCtorEq, Option.bind_some, Option.map_some, List.length_cons, List.length_nil, vcM, List.getElem?_toArray, List.getElem?_cons_zero, List.getElem?_cons_succ, s32, hfl]) | skip
        exact fin wk hk1 _
      · have hl' : ¬ ((n : Nat) : Int) < (t.outs.length : Nat) := by omega
        (refine W_at c19_ok ?_; refine ⟨_, rfl, ?_⟩; simp (disch := first | omega | assumption | rfl | (simp only [vcS] <;> omega) | fail) only [↓ptV_l, ↓vcA, vcB, ↓vcD, vcE, ↓reduceIte, Nat.reduceEqDiff, Nat.reduceAdd, Nat.reduceMul, Nat.reduceLeDiff, Int.reduceLE, Int.reduceLT, Int.reduceEq, Int.reduceToNat, Int.reduceAdd, Int.reduceSub, Int.reduceMul, Int.reduceNeg, reduceCtorEq, Option.bind_some, Option.map_some, List.length_cons, List.length_nil, vcM, List.getElem?_toArray, List.getElem?_cons_zero, List.getElem?_cons_succ, h3d, hB5, t2, hlo, hl'])
        refine callV_ret (key false ⟨fun h => (by cases h), fun h => absurd h (by rintro (h | h); exact ha h; exact hl h.2)⟩) ?_
        rintro _ wk ⟨rfl, hk1⟩
        first | (simp (disch := first | omega | assumption | rfl | (simp only [vcS] <;> omega) | fail) only [↓ptV_l, ↓vcA, vcB, ↓vcD, vcE, ↓reduceIte, Nat.reduceEqDiff, Nat.reduceAdd, Nat.reduceMul, Nat.reduceLeDiff, Int.reduceLE, Int.reduceLT, Int.reduceEq, Int.reduceToNat, Int.reduceAdd, Int.reduceSub, Int.reduceMul, Int.reduceNeg, reduceCtorEq, Option.bind_some, Option.map_some, List.length_cons, List.length_nil, vcM, List.getElem?_toArray, List.getElem?_cons_zero, List.getElem?_cons_succ, s32, hfl]) | skip
        exact fin wk hk1 _
    · have h3d : decide (kind % 32 = 3) = false := decide_eq_false h3
      (refine W_at c19_ok ?_; refine ⟨_, rfl, ?_⟩; simp (disch := first | omega | assumption | rfl | (simp only [vcS] <;> omega) | fail) only [↓ptV_l, ↓vcA, vcB, ↓vcD, vcE, ↓reduceIte, Nat.reduceEqDiff, Nat.reduceAdd, Nat.reduceMul, Nat.reduceLeDiff, Int.reduceLE, Int.reduceLT, Int.reduceEq, Int.reduceToNat, Int.reduceAdd, Int.reduceSub, Int.reduceMul, Int.reduceNeg, reduceCtorEq, Option.bind_some, Option.map_some, List.length_cons, List.length_nil, vcM, List.getElem?_toArray, List.getElem?_cons_zero, List.getElem?_cons_succ, h3d])
      refine callV_ret (key false ⟨fun h => (by cases h), fun h => absurd h (by rintro (h | h); exact ha h; exact h3 h.1)⟩) ?_
      rintro _ wk ⟨rfl, hk1⟩
      first | (simp (disch := first | omega | assumption | rfl | (simp only [vcS] <;> omega) | fail) only [↓ptV_l, ↓vcA, vcB, ↓vcD, vcE, ↓reduceIte, Nat.reduceEqDiff, Nat.reduceAdd, Nat.reduceMul, Nat.reduceLeDiff, Int.reduceLE, Int.reduceLT, Int.reduceEq, Int.reduceToNat, Int.reduceAdd, Int.reduceSub, Int.reduceMul, Int.reduceNeg, reduceCtorEq, Option.bind_some, Option.map_some, List.length_cons, List.length_nil, vcM, List.getElem?_toArray, List.getElem?_cons_zero, List.getElem?_cons_succ, s32, hfl]) | skip
      exact fin wk hk1 _
end Go.Proofs
namespace Go.Proofs
open Go.Vc
set_option maxRecDepth 10000

set_option maxHeartbeats 3200000 in
theorem wit_5 (w wj : World) (b5 b7 b8 b9 b10 b14 b15 : Nat) (t : TxV) (iv ov so sx : Value) (value kind : Int) (n : Nat) (hn : n < t.ins.length) (P script : List Int) (hB : WB w wj b5 b7 b8 b9 b10 t iv ov sx value kind) (h15 : wj.heap[b15]? = some (.cells (bv P).toArray 36 (0, 0)))
    (h14 : wj.heap[b14]? = some (.cells #[so] 23 (0, 0))) (hS : OusR w so (witS t n kind)) (hT : TxR w iv ov t) (hok : t.Ok) (hf : t.Few 100 1000)
    (hP : P.length = 32) (bP : byt P) (hs : Rd w sx script) (hsb : byt script) (hsl : script.length ≤ 1000) (hk : 0 ≤ kind ∧ kind ≤ 255) (tl : Env) :
    W Try.prog (Ret fun u w' => u = .agg (bv (dblF (witB t t.ins[n] P (witQ t kind) (witM t n kind) script value kind))).toArray ∧ Ext w w') 19 5
      ((1, .int .i64 (n : Nat)) :: (5, .pointer (some ⟨b5, 0, none⟩)) :: (7, .pointer (some ⟨b7, 0, none⟩)) :: (8, .pointer (some ⟨b8, 0, none⟩)) :: (9, .pointer (some ⟨b9, 0, none⟩)) :: (10, .pointer (some ⟨b10, 0, none⟩)) :: (11, .int .u8 (kind % 32)) :: (12, .bool (decide (128 ≤ kind))) :: (13, .bool (decide (kind % 32 ≠ 2 ∧ kind % 32 ≠ 3))) :: (14, .pointer (some ⟨b14, 0, none⟩)) :: (15, .pointer (some ⟨b15, 0, none⟩)) :: tl) wj := by
  have hl := sqF_len t.ins
  have hnI := hf.ins
  have hQl := ite_dbl (c := kind < 128 ∧ kind % 32 ≠ 2 ∧ kind % 32 ≠ 3) (t.ins.flatMap sqF)
  have key : ∀ is : Bool, (is = true ↔ (kind < 128 ∧ kind % 32 ≠ 2 ∧ kind % 32 ≠ 3)) → Calls Try.prog 36 #[.bool is, .func (.func 39) #[] #[.pointer (some ⟨b5, 0, none⟩)]] wj (Ret fun u wk => u = .agg (bv (witQ t kind)).toArray ∧ Ext wj wk) := by
    intro is his
    have h0 := over_ok wj is 39 #[.pointer (some ⟨b5, 0, none⟩)] (by kernel_rfl) (t.ins.flatMap sqF) (flat_byt fun y hy => lowF_byt _ _) (by omega) fun w0 w1 p hE hW => wit2_ok w0 w1 p b5 _ iv ov t hW (hB.go hE).h5 (ListR.ext hT.ins (hB.ext.ext hE) fun _ _ h => h.ext (hB.ext.ext hE)) hok.ins hnI
    have e : (if is = true then dblF (t.ins.flatMap sqF) else zeroD) = witQ t kind := by
      unfold witQ
      by_cases hc : kind < 128 ∧ kind % 32 ≠ 2 ∧ kind % 32 ≠ 3
      · rw [if_pos hc, if_pos (his.2 hc)]
      · rw [if_neg hc, if_neg fun h => hc (his.1 h)]
    rw [e] at h0
    exact h0
  have fin : ∀ wk, Ext wj wk → ∀ tl, W Try.prog (Ret fun u w' => u = .agg (bv (dblF (witB t t.ins[n] P (witQ t kind) (witM t n kind) script value kind))).toArray ∧ Ext w w') 19 4
      ((1, .int .i64 (n : Nat)) :: (5, .pointer (some ⟨b5, 0, none⟩)) :: (7, .pointer (some ⟨b7, 0, none⟩)) :: (8, .pointer (some ⟨b8, 0, none⟩)) :: (9, .pointer (some ⟨b9, 0, none⟩)) :: (10, .pointer (some ⟨b10, 0, none⟩)) :: (11, .int .u8 (kind % 32)) :: (13, .bool (decide (kind % 32 ≠ 2 ∧ kind % 32 ≠ 3))) :: (14, .pointer (some ⟨b14, 0, none⟩)) :: (15, .pointer (some ⟨b15, 0, none⟩)) :: (16, .pointer (some ⟨wk.heap.size, 0, none⟩)) :: tl) ((wk.alloc (.cells (zc [(32, .int .u8 0)]) 36)).putN wk.heap.size 0 (bv (witQ t kind)).toArray) := by
    intro wk hk0 tl
    obtain ⟨hE, h16⟩ := put_new (wj := wk) (T := 36) (D := witQ t kind) hQl.1
    have hEk := hk0.ext hE
    exact wit_4 w _ b5 b7 b8 b9 b10 b14 b15 _ t iv ov so sx value kind n hn P (witQ t kind) script (hB.go hEk) (hEk.at h15 (fun h => h)) h16 (hEk.at h14 (fun h => h)) hS hT hok hf hP hQl.1 bP hQl.2 hs hsb hsl hk tl
  have s32 : (bv (witQ t kind)).toArray.size = 32 := by rw [bva_size]; exact hQl.1
  have hfl := bv_flat (witQ t kind)
  by_cases hal : 128 ≤ kind
  · have hd1 : decide (128 ≤ kind) = true := decide_eq_true hal
    rw [hd1]
    (refine W_at c19_ok ?_; refine ⟨_, rfl, ?_⟩; simp (disch := first | omega | assumption | rfl | (simp only [vcS] <;> omega) | fail) only [↓ptV_l, ↓vcA, vcB, ↓vcD, vcE, ↓reduceIte, Nat.reduceEqDiff, Nat.reduceAdd, Nat.reduceMul, Nat.reduceLeDiff, Int.reduceLE, Int.reduceLT, Int.reduceEq, Int.reduceToNat, Int.reduceAdd, Int.reduceSub, Int.reduceMul, Int.reduceNeg, reduceCtorEq, Option.bind_some, Option.map_some, List.length_cons, List.length_nil, vcM, List.getElem?_toArray, List.getElem?_cons_zero, List.getElem?_cons_succ])
    refine callV_ret (key false ⟨fun h => (by cases h), fun h => absurd h.1 (by omega)⟩) ?_
    rintro _ wk ⟨rfl, hk1⟩
    first | (simp (disch := first | omega | assumption | rfl | (simp only [vcS] <;> omega) | fail) only [↓ptV_l, ↓vcA, vcB, ↓vcD, vcE, ↓reduceIte, Nat.reduceEqDiff, Nat.reduceAdd, Nat.reduceMul, Nat.reduceLeDiff, Int.reduceLE, Int.reduceLT, Int.reduceEq, Int.reduceToNat, Int.reduceAdd, Int.reduceSub, Int.reduceMul, Int.reduceNeg, reduceCtorEq, Option.bind_some, Option.map_some, List.length_cons, List.length_nil, vcM, List.getElem?_toArray, List.getElem?_cons_zero, List.getElem?_cons_succ, s32, hfl]) | skip
    exact fin wk hk1 _
  · have hd1 : decide (128 ≤ kind) = false := decide_eq_false hal
    rw [hd1]
    (refine W_at c19_ok ?_; refine ⟨_, rfl, ?_⟩; simp (disch := first | omega | assumption | rfl | (simp only [vcS] <;> omega) | fail) only [↓ptV_l, ↓vcA, vcB, ↓vcD, vcE, ↓reduceIte, Nat.reduceEqDiff, Nat.reduceAdd, Nat.reduceMul, Nat.reduceLeDiff, Int.reduceLE, Int.reduceLT, Int.reduceEq, Int.reduceToNat, Int.reduceAdd, Int.reduceSub, Int.reduceMul, Int.reduceNeg, reduceCtorEq, Option.bind_some, Option.map_some, List.length_cons, List.length_nil, vcM, List.getElem?_toArray, List.getElem?_cons_zero, List.getElem?_cons_succ])
    refine callV_ret (key (decide (kind % 32 ≠ 2 ∧ kind % 32 ≠ 3)) ⟨fun h => ⟨by omega, of_decide_eq_true h⟩, fun h => decide_eq_true h.2⟩) ?_
    rintro _ wk ⟨rfl, hk1⟩
    first | (simp (disch := first | omega | assumption | rfl | (simp only [vcS] <;> omega) | fail) only [↓ptV_l, ↓vcA, vcB, ↓vcD, vcE, ↓reduceIte, Nat.reduceEqDiff, Nat.reduceAdd, Nat.reduceMul, Nat.reduceLeDiff, Int.reduceLE, Int.reduceLT, Int.reduceEq, Int.reduceToNat, Int.reduceAdd, Int.reduceSub, Int.reduceMul, Int.reduceNeg, reduceCtorEq, Option.bind_some, Option.map_some, List.length_cons, List.length_nil, vcM, List.getElem?_toArray, List.getElem?_cons_zero, List.getElem?_cons_succ, s32, hfl]) | skip
    exact fin wk hk1 _
set_option maxHeartbeats 3200000 in
theorem wit_6 (w wj : World) (b5 b7 b8 b9 b10 b14 : Nat) (t : TxV) (iv ov so sx : Value) (value kind : Int) (n : Nat) (hn : n < t.ins.length) (script : List Int) (hB : WB w wj b5 b7 b8 b9 b10 t iv ov sx value kind)
    (h14 : wj.heap[b14]? = some (.cells #[so] 23 (0, 0))) (hS : OusR w so (witS t n kind)) (hT : TxR w iv ov t) (hok : t.Ok) (hf : t.Few 100 1000)
    (hs : Rd w sx script) (hsb : byt script) (hsl : script.length ≤ 1000) (hk : 0 ≤ kind ∧ kind ≤ 255) (tl : Env) :
    W Try.prog (Ret fun u w' => u = .agg (bv (dblF (witB t t.ins[n] (witP t kind) (witQ t kind) (witM t n kind) script value kind))).toArray ∧ Ext w w') 19 6
      ((1, .int .i64 (n : Nat)) :: (5, .pointer (some ⟨b5, 0, none⟩)) :: (7, .pointer (some ⟨b7, 0, none⟩)) :: (8, .pointer (some ⟨b8, 0, none⟩)) :: (9, .pointer (some ⟨b9, 0, none⟩)) :: (10, .pointer (some ⟨b10, 0, none⟩)) :: (11, .int .u8 (kind % 32)) :: (12, .bool (decide (128 ≤ kind))) :: (13, .bool (decide (kind % 32 ≠ 2 ∧ kind % 32 ≠ 3))) :: (14, .pointer (some ⟨b14, 0, none⟩)) :: tl) wj := by
  have hl := plF_len (l := t.ins) fun x hx => (hok.ins x hx).len
  have hnI := hf.ins
  have hPl := ite_dbl (c := kind < 128) (t.ins.flatMap plF)
  have h0 := over_ok wj (!decide (128 ≤ kind)) 37 #[.pointer (some ⟨b5, 0, none⟩)] (by kernel_rfl) (t.ins.flatMap plF) (flat_byt fun y hy => byt_app (hok.ins y hy).prev (lowF_byt _ _)) (by omega) fun w0 w1 p hE hW => wit1_ok w0 w1 p b5 _ iv ov t hW (hB.go hE).h5 (ListR.ext hT.ins (hB.ext.ext hE) fun _ _ h => h.ext (hB.ext.ext hE)) hok.ins hnI
  have e : (if (!decide (128 ≤ kind)) = true then dblF (t.ins.flatMap plF) else zeroD) = witP t kind := by
    unfold witP
    by_cases hc : kind < 128
    · rw [if_pos hc, if_pos (by simp; omega)]
    · rw [if_neg hc, if_neg (by simp; omega)]
  rw [e] at h0
  have s32 : (bv (witP t kind)).toArray.size = 32 := by rw [bva_size]; exact hPl.1
  have hfl := bv_flat (witP t kind)
  (refine W_at c19_ok ?_; refine ⟨_, rfl, ?_⟩; simp (disch := first | omega | assumption | rfl | (simp only [vcS] <;> omega) | fail) only [↓ptV_l, ↓vcA, vcB, ↓vcD, vcE, ↓reduceIte, Nat.reduceEqDiff, Nat.reduceAdd, Nat.reduceMul, Nat.reduceLeDiff, Int.reduceLE, Int.reduceLT, Int.reduceEq, Int.reduceToNat, Int.reduceAdd, Int.reduceSub, Int.reduceMul, Int.reduceNeg, reduceCtorEq, Option.bind_some, Option.map_some, List.length_cons, List.length_nil, vcM, List.getElem?_toArray, List.getElem?_cons_zero, List.getElem?_cons_succ])
  refine callV_ret h0 ?_
  rintro _ wk ⟨rfl, hk1⟩
  first | (simp (disch := first | omega | assumption | rfl | (simp only [vcS] <;> omega) | fail) only [↓ptV_l, ↓vcA, vcB, ↓vcD, vcE, ↓reduceIte, Nat.reduceEqDiff, Nat.reduceAdd, Nat.reduceMul, Nat.reduceLeDiff, Int.reduceLE, Int.reduceLT, Int.reduceEq, Int.reduceToNat, Int.reduceAdd, Int.reduceSub, Int.reduceMul, Int.reduceNeg, reduceCtorEq, Option.bind_some, Option.map_some, List.length_cons, List.length_nil, vcM, List.getElem?_toArray, List.getElem?_cons_zero, List.getElem?_cons_succ, s32, hfl]) | skip
  obtain ⟨hE, h15⟩ := put_new (wj := wk) (T := 36) (D := witP t kind) hPl.1
  have hEk := hk1.ext hE
  exact wit_5 w _ b5 b7 b8 b9 b10 b14 _ t iv ov so sx value kind n hn (witP t kind) script (hB.go hEk) h15 (hEk.at h14 (fun h => h)) hS hT hok hf hPl.1 hPl.2 hs hsb hsl hk _
set_option maxHeartbeats 3200000 in
theorem wit_10 (w wj : World) (b5 b7 b8 b9 b10 : Nat) (t : TxV) (iv ov sx : Value) (value kind : Int) (n : Nat) (hn : n < t.ins.length) (script : List Int) (hB : WB w wj b5 b7 b8 b9 b10 t iv ov sx value kind)
    (hT : TxR w iv ov t) (hok : t.Ok) (hf : t.Few 100 1000)
    (hs : Rd w sx script) (hsb : byt script) (hsl : script.length ≤ 1000) (hk : 0 ≤ kind ∧ kind ≤ 255) (tl : Env) :
    W Try.prog (Ret fun u w' => u = .agg (bv (dblF (witB t t.ins[n] (witP t kind) (witQ t kind) (witM t n kind) script value kind))).toArray ∧ Ext w w') 19 10
      ((1, .int .i64 (n : Nat)) :: (5, .pointer (some ⟨b5, 0, none⟩)) :: (7, .pointer (some ⟨b7, 0, none⟩)) :: (8, .pointer (some ⟨b8, 0, none⟩)) :: (9, .pointer (some ⟨b9, 0, none⟩)) :: (10, .pointer (some ⟨b10, 0, none⟩)) :: (11, .int .u8 (kind % 32)) :: (12, .bool (decide (128 ≤ kind))) :: (13, .bool (decide (kind % 32 ≠ 2 ∧ kind % 32 ≠ 3))) :: tl) wj := by
  have hB5 := hB.h5
  have t2 : (txC t iv ov)[2]? = some ov := rfl
  have hlo := ListR.len hT.outs
  have ho1 := ListR.one hT.outs
  have hEs : ∀ so, Ext wj ((wj.alloc (.cells (zc [(1, .slice none 0 0)]) 23)).setCell ⟨wj.heap.size, 0, none⟩ so) := fun so => ((Keep.refl _ wj).alloc _).setCell _ (by intro hh; exfalso; simp at hh)
  have hEa : Ext wj (wj.alloc (.cells (zc [(1, .slice none 0 0)]) 23)) := (Keep.refl _ wj).alloc _
  have h14a : (wj.alloc (.cells (zc [(1, .slice none 0 0)]) 23)).heap[wj.heap.size]? = some (.cells (zc [(1, .slice none 0 0)]) 23 (0, 0)) := heap_new _ _ _ rfl
  (refine W_at c19_ok ?_; refine ⟨_, rfl, ?_⟩; simp (disch := first | omega | assumption | rfl | (simp only [vcS] <;> omega) | fail) only [↓ptV_l, ↓vcA, vcB, ↓vcD, vcE, ↓reduceIte, Nat.reduceEqDiff, Nat.reduceAdd, Nat.reduceMul, Nat.reduceLeDiff, Int.reduceLE, Int.reduceLT, Int.reduceEq, Int.reduceToNat, Int.reduceAdd, Int.reduceSub, Int.reduceMul, Int.reduceNeg, reduceCtorEq, Option.bind_some, Option.map_some, List.length_cons, List.length_nil, vcM, List.getElem?_toArray, List.getElem?_cons_zero, List.getElem?_cons_succ, hB5, t2, ho1])
  refine ⟨wr1_of h14a (by simp [zc, runs]), ?_⟩
  have hE1 := hEs ov
  have h14 : ((wj.alloc (.cells (zc [(1, .slice none 0 0)]) 23)).setCell ⟨wj.heap.size, 0, none⟩ ov).heap[wj.heap.size]? = some (.cells #[ov] 23 (0, 0)) := by rw [heap_setCell_eq h14a]; rfl
  clear hEs hEa h14a
  generalize World.setCell _ _ _ = w1 at hE1 h14 ⊢
  generalize hb14 : wj.heap.size = b14 at h14 ⊢
  have hB1 := hB.go hE1
  have hB15 := hB1.h5
  by_cases h3 : kind % 32 = 3
  · have h3d : decide (kind % 32 = 3) = true := decide_eq_true h3
    by_cases hl : n < t.outs.length
    · have hl' : ((n : Nat) : Int) < (t.outs.length : Nat) := by omega
      (refine W_at c19_ok ?_; refine ⟨_, rfl, ?_⟩; simp (disch := first | omega | assumption | rfl | (simp only [vcS] <;> omega) | fail) only [↓ptV_l, ↓vcA, vcB, ↓vcD, vcE, ↓reduceIte, Nat.reduceEqDiff, Nat.reduceAdd, Nat.reduceMul, Nat.reduceLeDiff, Int.reduceLE, Int.reduceLT, Int.reduceEq, Int.reduceToNat, Int.reduceAdd, Int.reduceSub, Int.reduceMul, Int.reduceNeg, reduceCtorEq, Option.bind_some, Option.map_some, List.length_cons, List.length_nil, vcM, List.getElem?_toArray, List.getElem?_cons_zero, List.getElem?_cons_succ, h3d, hB15, t2, hlo, hl'])
      (refine W_at c19_ok ?_; refine ⟨_, rfl, ?_⟩; simp (disch := first | omega | assumption | rfl | (simp only [vcS] <;> omega) | fail) only [↓ptV_l, ↓vcA, vcB, ↓vcD, vcE, ↓reduceIte, Nat.reduceEqDiff, Nat.reduceAdd, Nat.reduceMul, Nat.reduceLeDiff, Int.reduceLE, Int.reduceLT, Int.reduceEq, Int.reduceToNat, Int.reduceAdd, Int.reduceSub, Int.reduceMul, Int.reduceNeg, reduceCtorEq, Option.bind_some, Option.map_some, List.length_cons, List.length_nil, vcM, List.getElem?_toArray, List.getElem?_cons_zero, List.getElem?_cons_succ])
      have hO := hT.outs
      obtain ⟨_, _, _, _, ⟨q, c, eo, hc⟩, hm, _⟩ := id hO
      have hoc := hf.outs
      subst eo
      have wi : IntKind.i64.wrap ((n : Int) + 1) = ((n + 1 : Nat) : Int) := wrap_i64 (by omega) (by omega)
      have k1 : (0 : Int) ≤ (n : Nat) ∧ ((n : Nat) : Int) ≤ ((n + 1 : Nat) : Int) ∧ ((n + 1 : Nat) : Int) ≤ (c : Nat) := by omega
      have k2 : (0 : Int) ≤ ((n + 1 : Nat) : Int) := by omega
      (refine W_at c19_ok ?_; refine ⟨_, rfl, ?_⟩; simp (disch := first | omega | assumption | rfl | (simp only [vcS] <;> omega) | fail) only [↓ptV_l, ↓vcA, vcB, ↓vcD, vcE, ↓reduceIte, Nat.reduceEqDiff, Nat.reduceAdd, Nat.reduceMul, Nat.reduceLeDiff, Int.reduceLE, Int.reduceLT, Int.reduceEq, Int.reduceToNat, Int.reduceAdd, Int.reduceSub, Int.reduceMul, Int.reduceNeg, reduceCtorEq, Option.bind_some, Option.map_some, List.length_cons, List.length_nil, vcM, List.getElem?_toArray, List.getElem?_cons_zero, List.getElem?_cons_succ, hB15, t2, wi, k1, k2, Int.toNat_natCast])
      refine ⟨wr1_of h14 (by simp), ?_⟩
      have hk2 : Keep (fun g => g = b14) w1 (w1.setCell ⟨b14, 0, none⟩ (.slice (advA 2 q c n) (n + 1 - n) (c - n))) := (Keep.refl _ w1).setCell _ fun _ => rfl
      have h142 : (w1.setCell ⟨b14, 0, none⟩ (.slice (advA 2 q c n) (n + 1 - n) (c - n))).heap[b14]? = some (.cells #[.slice (advA 2 q c n) (n + 1 - n) (c - n)] 23 (0, 0)) := by rw [heap_setCell_eq h14]; rfl
      have hE2 := hE1.trans hk2 fun g hg e => by omega
      refine wit_6 w _ b5 b7 b8 b9 b10 b14 t iv _ _ sx value kind n hn script (hB.go hE2) h142 ?_ hT hok hf hs hsb hsl hk _
      unfold witS
      rw [if_pos ⟨h3, hl⟩]
      exact hO.cut1 hl
    · have hl' : ¬ ((n : Nat) : Int) < (t.outs.length : Nat) := by omega
      (refine W_at c19_ok ?_; refine ⟨_, rfl, ?_⟩; simp (disch := first | omega | assumption | rfl | (simp only [vcS] <;> omega) | fail) only [↓ptV_l, ↓vcA, vcB, ↓vcD, vcE, ↓reduceIte, Nat.reduceEqDiff, Nat.reduceAdd, Nat.reduceMul, Nat.reduceLeDiff, Int.reduceLE, Int.reduceLT, Int.reduceEq, Int.reduceToNat, Int.reduceAdd, Int.reduceSub, Int.reduceMul, Int.reduceNeg, reduceCtorEq, Option.bind_some, Option.map_some, List.length_cons, List.length_nil, vcM, List.getElem?_toArray, List.getElem?_cons_zero, List.getElem?_cons_succ, h3d, hB15, t2, hlo, hl'])
      (refine W_at c19_ok ?_; refine ⟨_, rfl, ?_⟩; simp (disch := first | omega | assumption | rfl | (simp only [vcS] <;> omega) | fail) only [↓ptV_l, ↓vcA, vcB, ↓vcD, vcE, ↓reduceIte, Nat.reduceEqDiff, Nat.reduceAdd, Nat.reduceMul, Nat.reduceLeDiff, Int.reduceLE, Int.reduceLT, Int.reduceEq, Int.reduceToNat, Int.reduceAdd, Int.reduceSub, Int.reduceMul, Int.reduceNeg, reduceCtorEq, Option.bind_some, Option.map_some, List.length_cons, List.length_nil, vcM, List.getElem?_toArray, List.getElem?_cons_zero, List.getElem?_cons_succ])
      exact wit_6 w _ b5 b7 b8 b9 b10 b14 t iv ov ov sx value kind n hn script hB1 h14 (by unfold witS; rw [if_neg fun h => hl h.2]; exact hT.outs) hT hok hf hs hsb hsl hk _
  · have h3d : decide (kind % 32 = 3) = false := decide_eq_false h3
    (refine W_at c19_ok ?_; refine ⟨_, rfl, ?_⟩; simp (disch := first | omega | assumption | rfl | (simp only [vcS] <;> omega) | fail) only [↓ptV_l, ↓vcA, vcB, ↓vcD, vcE, ↓reduceIte, Nat.reduceEqDiff, Nat.reduceAdd, Nat.reduceMul, Nat.reduceLeDiff, Int.reduceLE, Int.reduceLT, Int.reduceEq, Int.reduceToNat, Int.reduceAdd, Int.reduceSub, Int.reduceMul, Int.reduceNeg, reduceCtorEq, Option.bind_some, Option.map_some, List.length_cons, List.length_nil, vcM, List.getElem?_toArray, List.getElem?_cons_zero, List.getElem?_cons_succ, h3d])
    (refine W_at c19_ok ?_; refine ⟨_, rfl, ?_⟩; simp (disch := first | omega | assumption | rfl | (simp only [vcS] <;> omega) | fail) only [↓ptV_l, ↓vcA, vcB, ↓vcD, vcE, ↓reduceIte, Nat.reduceEqDiff, Nat.reduceAdd, Nat.reduceMul, Nat.reduceLeDiff, Int.reduceLE, Int.reduceLT, Int.reduceEq, Int.reduceToNat, Int.reduceAdd, Int.reduceSub, Int.reduceMul, Int.reduceNeg, reduceCtorEq, Option.bind_some, Option.map_some, List.length_cons, List.length_nil, vcM, List.getElem?_toArray, List.getElem?_cons_zero, List.getElem?_cons_succ])
    exact wit_6 w _ b5 b7 b8 b9 b10 b14 t iv ov ov sx value kind n hn script hB1 h14 (by unfold witS; rw [if_neg fun h => h3 h.1]; exact hT.outs) hT hok hf hs hsb hsl hk _
theorem WB.new (w : World) (t : TxV) (iv ov sx : Value) (value kind : Int) :
    WB w (((((w.alloc (.cells (txC t iv ov) 26)).alloc (.cells #[sx] 27)).alloc (.cells #[.int .i64 value] 2)).alloc (.cells #[.int .u8 kind] 5)).alloc (.cells (zc [(32, .int .u8 0)]) 36))
      w.heap.size (w.heap.size + 1) (w.heap.size + 1 + 1) (w.heap.size + 1 + 1 + 1) (w.heap.size + 1 + 1 + 1 + 1) t iv ov sx value kind := by
  have al : ∀ (w : World) (o : Obj), Ext w (w.alloc o) := fun w o => (Keep.refl _ w).alloc _
  generalize e1 : w.alloc (.cells (txC t iv ov) 26) = w1
  have s1 : w1.heap.size = w.heap.size + 1 := by rw [← e1]; exact size_alloc _ _
  have h5 : w1.heap[w.heap.size]? = some (.cells (txC t iv ov) 26 (0, 0)) := by rw [← e1]; exact heap_new _ _ _ rfl
  have x1 : Ext w w1 := by rw [← e1]; exact al _ _
  generalize e2 : w1.alloc (.cells #[sx] 27) = w2
  have s2 : w2.heap.size = w.heap.size + 1 + 1 := by rw [← e2, size_alloc, s1]
  have h7 : w2.heap[w.heap.size + 1]? = some (.cells #[sx] 27 (0, 0)) := by rw [← s1, ← e2]; exact heap_new _ _ _ rfl
  have x2 : Ext w1 w2 := by rw [← e2]; exact al _ _
  generalize e3 : w2.alloc (.cells #[.int .i64 value] 2) = w3
  have s3 : w3.heap.size = w.heap.size + 1 + 1 + 1 := by rw [← e3, size_alloc, s2]
  have h8 : w3.heap[w.heap.size + 1 + 1]? = some (.cells #[.int .i64 value] 2 (0, 0)) := by rw [← s2, ← e3]; exact heap_new _ _ _ rfl
  have x3 : Ext w2 w3 := by rw [← e3]; exact al _ _
  generalize e4 : w3.alloc (.cells #[.int .u8 kind] 5) = w4
  have s4 : w4.heap.size = w.heap.size + 1 + 1 + 1 + 1 := by rw [← e4, size_alloc, s3]
  have h9 : w4.heap[w.heap.size + 1 + 1 + 1]? = some (.cells #[.int .u8 kind] 5 (0, 0)) := by rw [← s3, ← e4]; exact heap_new _ _ _ rfl
  have x4 : Ext w3 w4 := by rw [← e4]; exact al _ _
  have hb1 : zc [(32, Value.int .u8 0)] = (bv zeroD).toArray := rfl
  have h10 : (w4.alloc (.cells (zc [(32, .int .u8 0)]) 36)).heap[w.heap.size + 1 + 1 + 1 + 1]? = some (.cells (bv zeroD).toArray 36 (0, 0)) := by rw [← s4, ← hb1]; exact heap_new _ _ _ rfl
  have x5 : Ext w4 (w4.alloc (.cells (zc [(32, .int .u8 0)]) 36)) := al _ _
  exact ⟨(((x1.ext x2).ext x3).ext x4).ext x5, by omega, x5.at (x4.at (x3.at (x2.at h5 (fun h => h)) (fun h => h)) (fun h => h)) (fun h => h), x5.at (x4.at (x3.at h7 (fun h => h)) (fun h => h)) (fun h => h), x5.at (x4.at h8 (fun h => h)) (fun h => h), x5.at h9 (fun h => h), h10⟩
set_option maxHeartbeats 3200000 in
theorem witness_ok (w : World) (iv ov : Value) (t : TxV) (hT : TxR w iv ov t) (hok : t.Ok) (hf : t.Few 100 1000) (i : Int) (sx : Value) (script : List Int) (hs : Rd w sx script) (hsb : byt script) (hsl : script.length ≤ 1000) (value kind : Int) (hk : 0 ≤ kind ∧ kind ≤ 255) :
    Calls Try.prog 19 #[.agg (txC t iv ov), .int .i64 i, sx, .int .i64 value, .int .u8 kind] w (Ret fun u w' => u = .agg (bv (witF t i script value kind)).toArray ∧ Ext w w') := by
  refine calls_of_cfg c19_ok (Nat.le_of_ble_eq_true rfl) ?_
  simp only [argE_nil, argE_cons, Nat.reduceAdd, Nat.zero_add]
  have hi1 := ListR.one hT.ins
  have ho1 := ListR.one hT.outs
  have hli := ListR.len hT.ins
  have hfx : flat (txC t iv ov) := by intro y hy; simp only [txC, List.mem_toArray, List.mem_cons, List.not_mem_nil, or_false] at hy; rcases hy with rfl | rfl | rfl | rfl <;> first | rfl | assumption
  have hcx : (Value.agg (txC t iv ov)).cells = txC t iv ov := rfl
  have hzx := txC_sz t iv ov
  have hsx := hs.one
  have hcs : sx.cells = #[sx] := by obtain ⟨⟨q, c, e, _⟩, _⟩ := hs; rw [e]; rfl
  (refine W_at c19_ok ?_; refine ⟨_, rfl, ?_⟩; simp (disch := first | omega | assumption | rfl | (simp only [vcS] <;> omega) | fail) only [↓ptV_l, ↓vcA, vcB, ↓vcD, vcE, ↓reduceIte, Nat.reduceEqDiff, Nat.reduceAdd, Nat.reduceMul, Nat.reduceLeDiff, Int.reduceLE, Int.reduceLT, Int.reduceEq, Int.reduceToNat, Int.reduceAdd, Int.reduceSub, Int.reduceMul, Int.reduceNeg, reduceCtorEq, Option.bind_some, Option.map_some, List.length_cons, List.length_nil, vcM, List.getElem?_toArray, List.getElem?_cons_zero, List.getElem?_cons_succ, hfx, hcx, hzx, hsx, hcs])
  have hB := WB.new w t iv ov sx value kind
  generalize World.alloc _ _ = wj at hB ⊢
  generalize w.heap.size + 1 + 1 + 1 + 1 = b10 at hB ⊢
  generalize w.heap.size + 1 + 1 + 1 = b9 at hB ⊢
  generalize w.heap.size + 1 + 1 = b8 at hB ⊢
  generalize w.heap.size + 1 = b7 at hB ⊢
  generalize hb5 : w.heap.size = b5 at hB ⊢
  have hB5 := hB.h5
  have t1 : (txC t iv ov)[1]? = some iv := rfl
  have noth : ¬ (0 ≤ i ∧ i.toNat < t.ins.length) → ∀ tl, W Try.prog (Ret fun u w' => u = .agg (bv (witF t i script value kind)).toArray ∧ Ext w w') 19 14 ((1, .int .i64 i) :: (5, .pointer (some ⟨b5, 0, none⟩)) :: (7, .pointer (some ⟨b7, 0, none⟩)) :: (8, .pointer (some ⟨b8, 0, none⟩)) :: (9, .pointer (some ⟨b9, 0, none⟩)) :: (10, .pointer (some ⟨b10, 0, none⟩)) :: tl) wj := by
    intro hno tl
    unfold witF
    rw [dif_neg hno]
    have h10 := hB.h10
    (refine W_at c19_ok ?_; refine ⟨_, rfl, ?_⟩; simp (disch := first | omega | assumption | rfl | (simp only [vcS] <;> omega) | fail) only [↓ptV_l, ↓vcA, vcB, ↓vcD, vcE, ↓reduceIte, Nat.reduceEqDiff, Nat.reduceAdd, Nat.reduceMul, Nat.reduceLeDiff, Int.reduceLE, Int.reduceLT, Int.reduceEq, Int.reduceToNat, Int.reduceAdd, Int.reduceSub, Int.reduceMul, Int.reduceNeg, reduceCtorEq, Option.bind_some, Option.map_some, List.length_cons, List.length_nil, vcM, List.getElem?_toArray, List.getElem?_cons_zero, List.getElem?_cons_succ])
    refine callV_ret (nothing_ok wj) ?_
    rintro _ w3 ⟨rfl, hE3⟩
    have c23 := hE3.at h10 (fun h => h)
    have s32 : (bv oneD).toArray.size = 32 := rfl
    have z32 : (bv zeroD).toArray.size = 32 := rfl
    have o32 : okO (some (.cells (bv zeroD).toArray 36 (0, 0))) 0 32 = True := by simp only [okO, z32]; simp
    first | (simp (disch := first | omega | assumption | rfl | (simp only [vcS] <;> omega) | fail) only [↓ptV_l, ↓vcA, vcB, ↓vcD, vcE, ↓reduceIte, Nat.reduceEqDiff, Nat.reduceAdd, Nat.reduceMul, Nat.reduceLeDiff, Int.reduceLE, Int.reduceLT, Int.reduceEq, Int.reduceToNat, Int.reduceAdd, Int.reduceSub, Int.reduceMul, Int.reduceNeg, reduceCtorEq, Option.bind_some, Option.map_some, List.length_cons, List.length_nil, vcM, List.getElem?_toArray, List.getElem?_cons_zero, List.getElem?_cons_succ, c23, s32, o32]) | skip
    refine ⟨bv_flat _, ?_⟩
    have d9 : (w3.putN b10 0 (bv oneD).toArray).heap[b10]? = some (.cells (bv oneD).toArray 36 (0, 0)) := by rw [heap_putN_eq c23, splice_all (by rw [s32]; rfl)]
    have hr32 : rdO (some (.cells (bv oneD).toArray 36 (0, 0))) 0 32 = some (bv oneD).toArray := rdO_all _ _ _ _ s32
    have hlo := hB.lo
    (refine W_at c19_ok ?_; refine ⟨_, rfl, ?_⟩; simp (disch := first | omega | assumption | rfl | (simp only [vcS] <;> omega) | fail) only [↓ptV_l, ↓vcA, vcB, ↓vcD, vcE, ↓reduceIte, Nat.reduceEqDiff, Nat.reduceAdd, Nat.reduceMul, Nat.reduceLeDiff, Int.reduceLE, Int.reduceLT, Int.reduceEq, Int.reduceToNat, Int.reduceAdd, Int.reduceSub, Int.reduceMul, Int.reduceNeg, reduceCtorEq, Option.bind_some, Option.map_some, List.length_cons, List.length_nil, vcM, List.getElem?_toArray, List.getElem?_cons_zero, List.getElem?_cons_succ, d9, hr32, Ret_returned])
    exact (hB.ext.ext hE3).trans ((Keep.refl (fun g => g = b10) w3).putN _ fun _ => rfl) fun g hg e => by omega
  by_cases a1 : i < 0
  · (refine W_at c19_ok ?_; refine ⟨_, rfl, ?_⟩; simp (disch := first | omega | assumption | rfl | (simp only [vcS] <;> omega) | fail) only [↓ptV_l, ↓vcA, vcB, ↓vcD, vcE, ↓reduceIte, Nat.reduceEqDiff, Nat.reduceAdd, Nat.reduceMul, Nat.reduceLeDiff, Int.reduceLE, Int.reduceLT, Int.reduceEq, Int.reduceToNat, Int.reduceAdd, Int.reduceSub, Int.reduceMul, Int.reduceNeg, reduceCtorEq, Option.bind_some, Option.map_some, List.length_cons, List.length_nil, vcM, List.getElem?_toArray, List.getElem?_cons_zero, List.getElem?_cons_succ, a1])
    (refine W_at c19_ok ?_; refine ⟨_, rfl, ?_⟩; simp (disch := first | omega | assumption | rfl | (simp only [vcS] <;> omega) | fail) only [↓ptV_l, ↓vcA, vcB, ↓vcD, vcE, ↓reduceIte, Nat.reduceEqDiff, Nat.reduceAdd, Nat.reduceMul, Nat.reduceLeDiff, Int.reduceLE, Int.reduceLT, Int.reduceEq, Int.reduceToNat, Int.reduceAdd, Int.reduceSub, Int.reduceMul, Int.reduceNeg, reduceCtorEq, Option.bind_some, Option.map_some, List.length_cons, List.length_nil, vcM, List.getElem?_toArray, List.getElem?_cons_zero, List.getElem?_cons_succ])
    exact noth (fun h => by omega) _
  by_cases a2 : (t.ins.length : Int) ≤ i
  · (refine W_at c19_ok ?_; refine ⟨_, rfl, ?_⟩; simp (disch := first | omega | assumption | rfl | (simp only [vcS] <;> omega) | fail) only [↓ptV_l, ↓vcA, vcB, ↓vcD, vcE, ↓reduceIte, Nat.reduceEqDiff, Nat.reduceAdd, Nat.reduceMul, Nat.reduceLeDiff, Int.reduceLE, Int.reduceLT, Int.reduceEq, Int.reduceToNat, Int.reduceAdd, Int.reduceSub, Int.reduceMul, Int.reduceNeg, reduceCtorEq, Option.bind_some, Option.map_some, List.length_cons, List.length_nil, vcM, List.getElem?_toArray, List.getElem?_cons_zero, List.getElem?_cons_succ, a1, a2, hB5, t1, hli])
    (refine W_at c19_ok ?_; refine ⟨_, rfl, ?_⟩; simp (disch := first | omega | assumption | rfl | (simp only [vcS] <;> omega) | fail) only [↓ptV_l, ↓vcA, vcB, ↓vcD, vcE, ↓reduceIte, Nat.reduceEqDiff, Nat.reduceAdd, Nat.reduceMul, Nat.reduceLeDiff, Int.reduceLE, Int.reduceLT, Int.reduceEq, Int.reduceToNat, Int.reduceAdd, Int.reduceSub, Int.reduceMul, Int.reduceNeg, reduceCtorEq, Option.bind_some, Option.map_some, List.length_cons, List.length_nil, vcM, List.getElem?_toArray, List.getElem?_cons_zero, List.getElem?_cons_succ])
    exact noth (fun h => by omega) _
  (refine W_at c19_ok ?_; refine ⟨_, rfl, ?_⟩; simp (disch := first | omega | assumption | rfl | (simp only [vcS] <;> omega) | fail) only [↓ptV_l, ↓vcA, vcB, ↓vcD, vcE, ↓reduceIte, Nat.reduceEqDiff, Nat.reduceAdd, Nat.reduceMul, Nat.reduceLeDiff, Int.reduceLE, Int.reduceLT, Int.reduceEq, Int.reduceToNat, Int.reduceAdd, Int.reduceSub, Int.reduceMul, Int.reduceNeg, reduceCtorEq, Option.bind_some, Option.map_some, List.length_cons, List.length_nil, vcM, List.getElem?_toArray, List.getElem?_cons_zero, List.getElem?_cons_succ, a1, a2, hB5, t1, hli])
  (refine W_at c19_ok ?_; refine ⟨_, rfl, ?_⟩; simp (disch := first | omega | assumption | rfl | (simp only [vcS] <;> omega) | fail) only [↓ptV_l, ↓vcA, vcB, ↓vcD, vcE, ↓reduceIte, Nat.reduceEqDiff, Nat.reduceAdd, Nat.reduceMul, Nat.reduceLeDiff, Int.reduceLE, Int.reduceLT, Int.reduceEq, Int.reduceToNat, Int.reduceAdd, Int.reduceSub, Int.reduceMul, Int.reduceNeg, reduceCtorEq, Option.bind_some, Option.map_some, List.length_cons, List.length_nil, vcM, List.getElem?_toArray, List.getElem?_cons_zero, List.getElem?_cons_succ])
  clear noth
  have h9 := hB.h9
  (refine W_at c19_ok ?_; refine ⟨_, rfl, ?_⟩; simp (disch := first | omega | assumption | rfl | (simp only [vcS] <;> omega) | fail) only [↓ptV_l, ↓vcA, vcB, ↓vcD, vcE, ↓reduceIte, Nat.reduceEqDiff, Nat.reduceAdd, Nat.reduceMul, Nat.reduceLeDiff, Int.reduceLE, Int.reduceLT, Int.reduceEq, Int.reduceToNat, Int.reduceAdd, Int.reduceSub, Int.reduceMul, Int.reduceNeg, reduceCtorEq, Option.bind_some, Option.map_some, List.length_cons, List.length_nil, vcM, List.getElem?_toArray, List.getElem?_cons_zero, List.getElem?_cons_succ, h9])
  refine callV_ret (way_ok wj kind hk) ?_
  rintro _ wx ⟨rfl, hwx⟩
  rw [hwx]
  clear hwx
  first | (simp (disch := first | omega | assumption | rfl | (simp only [vcS] <;> omega) | fail) only [↓ptV_l, ↓vcA, vcB, ↓vcD, vcE, ↓reduceIte, Nat.reduceEqDiff, Nat.reduceAdd, Nat.reduceMul, Nat.reduceLeDiff, Int.reduceLE, Int.reduceLT, Int.reduceEq, Int.reduceToNat, Int.reduceAdd, Int.reduceSub, Int.reduceMul, Int.reduceNeg, reduceCtorEq, Option.bind_some, Option.map_some, List.length_cons, List.length_nil, vcM, List.getElem?_toArray, List.getElem?_cons_zero, List.getElem?_cons_succ]) | skip
  obtain ⟨n, rfl⟩ := Int.eq_ofNat_of_zero_le (show 0 ≤ i by omega)
  have hn : n < t.ins.length := by omega
  have hwF : witF t (n : Nat) script value kind = dblF (witB t t.ins[n] (witP t kind) (witQ t kind) (witM t n kind) script value kind) := by
    unfold witF
    rw [dif_pos ⟨by omega, by rw [Int.toNat_natCast]; exact hn⟩]
    rfl
  rw [hwF]
  have fin := wit_10 w wj b5 b7 b8 b9 b10 t iv ov sx value kind n hn script hB hT hok hf hs hsb hsl hk
  by_cases c2 : kind % 32 = 2
  · have d2 : decide (kind % 32 = 2) = true := decide_eq_true c2
    have e : decide (kind % 32 ≠ 2 ∧ kind % 32 ≠ 3) = false := decide_eq_false fun h => h.1 c2
    rw [e] at fin
    (refine W_at c19_ok ?_; refine ⟨_, rfl, ?_⟩; simp (disch := first | omega | assumption | rfl | (simp only [vcS] <;> omega) | fail) only [↓ptV_l, ↓vcA, vcB, ↓vcD, vcE, ↓reduceIte, Nat.reduceEqDiff, Nat.reduceAdd, Nat.reduceMul, Nat.reduceLeDiff, Int.reduceLE, Int.reduceLT, Int.reduceEq, Int.reduceToNat, Int.reduceAdd, Int.reduceSub, Int.reduceMul, Int.reduceNeg, reduceCtorEq, Option.bind_some, Option.map_some, List.length_cons, List.length_nil, vcM, List.getElem?_toArray, List.getElem?_cons_zero, List.getElem?_cons_succ, d2])
    exact fin _
  · have d2 : decide (kind % 32 = 2) = false := decide_eq_false c2
    by_cases c3 : kind % 32 = 3
    · have d3 : decide (kind % 32 = 3) = true := decide_eq_true c3
      have e : decide (kind % 32 ≠ 2 ∧ kind % 32 ≠ 3) = false := decide_eq_false fun h => h.2 c3
      rw [e] at fin
      (refine W_at c19_ok ?_; refine ⟨_, rfl, ?_⟩; simp (disch := first | omega | assumption | rfl | (simp only [vcS] <;> omega) | fail) only [↓ptV_l, ↓vcA, vcB, ↓vcD, vcE, ↓reduceIte, Nat.reduceEqDiff, Nat.reduceAdd, Nat.reduceMul, Nat.reduceLeDiff, Int.reduceLE, Int.reduceLT, Int.reduceEq, Int.reduceToNat, Int.reduceAdd, Int.reduceSub, Int.reduceMul, Int.reduceNeg, reduceCtorEq, Option.bind_some, Option.map_some, List.length_cons, List.length_nil, vcM, List.getElem?_toArray, List.getElem?_cons_zero, List.getElem?_cons_succ, d2, d3])
      exact fin _
    · have d3 : decide (kind % 32 = 3) = false := decide_eq_false c3
      have e : decide (kind % 32 ≠ 2 ∧ kind % 32 ≠ 3) = true := decide_eq_true ⟨c2, c3⟩
      rw [e] at fin
      (refine W_at c19_ok ?_; refine ⟨_, rfl, ?_⟩; simp (disch := first | omega | assumption | rfl | (simp only [vcS] <;> omega) | fail) only [↓ptV_l, ↓vcA, vcB, ↓vcD, vcE, ↓reduceIte, Nat.reduceEqDiff, Nat.reduceAdd, Nat.reduceMul, Nat.reduceLeDiff, Int.reduceLE, Int.reduceLT, Int.reduceEq, Int.reduceToNat, Int.reduceAdd, Int.reduceSub, Int.reduceMul, Int.reduceNeg, reduceCtorEq, Option.bind_some, Option.map_some, List.length_cons, List.length_nil, vcM, List.getElem?_toArray, List.getElem?_cons_zero, List.getElem?_cons_succ, d2, d3])
      exact fin _
end Go.Proofs
namespace Go.Proofs
open Go.Vc
set_option maxRecDepth 10000

theorem liesBAll_split {bz : Tys → Nat} {w : World} : ∀ {s t : Tys} {l : List Value}, LiesBAll bz w (s.app t) l → ∃ a b, l = a ++ b ∧ LiesBAll bz w s a ∧ LiesBAll bz w t b
  | .nil, t, l, h => ⟨[], l, rfl, by simp only [LiesBAll], h⟩
  | .cons u s, t, [], h => by simp only [Tys.app, LiesBAll] at h
  | .cons u s, t, v :: l, h => by
    simp only [Tys.app, LiesBAll] at h
    obtain ⟨a, b, e, h1, h2⟩ := liesBAll_split h.2
    exact ⟨v :: a, b, by rw [e]; rfl, by simp only [LiesBAll]; exact ⟨h.1, h1⟩, h2⟩
theorem bytes_rep {bz : Tys → Nat} {w : World} : ∀ (k : Nat) (l : List Value), LiesBAll bz w (Tys.rep k u8T) l → ∃ bs, l = bv bs ∧ bs.length = k ∧ byt bs
  | 0, l, h => by
    simp only [Tys.rep, LiesBAll] at h
    exact ⟨[], h, rfl, byt_nil⟩
  | k + 1, l, h => by
    simp only [Tys.rep, u8T, Tys.app] at h
    cases l with
    | nil => simp only [LiesBAll] at h
    | cons v l =>
      simp only [LiesBAll, LiesB] at h
      obtain ⟨⟨n, rfl, hn⟩, h2⟩ := h
      obtain ⟨bs, rfl, hl, hb⟩ := bytes_rep k l h2
      have := wf_int hn
      have e1 : IntKind.u8.min = 0 := by decide
      have e2 : IntKind.u8.max = 255 := by decide
      refine ⟨n :: bs, rfl, by rw [List.length_cons, hl], fun b hx => ?_⟩
      rcases List.mem_cons.1 hx with rfl | hx
      · omega
      · exact hb b hx
theorem reach_le : reachBytes ≤ 140737488355328 := by decide
theorem sl_of {w : World} {v : Value} (h : LiesB bzT w (.sl u8T) v) : ∃ bs, Rd w v bs ∧ byt bs ∧ bs.length ≤ 140737488355328 := by
  obtain ⟨bs, h1, h2⟩ := bytes_of h.lies
  refine ⟨bs, h1, h2, ?_⟩
  obtain ⟨⟨q', c', e, _⟩, _⟩ := h1
  simp only [LiesB] at h
  obtain ⟨q, n, c, xs, e2, _, _, h3, _⟩ := h
  rw [e] at e2
  injection e2 with _ e3 _
  have := reach_le
  rw [bz_u8] at h3
  omega
theorem rows_of {w : World} {v : Value} (h : LiesB bzT w (.sl rowT) v) : ∃ ps, RowR w v ps ∧ (∀ p ∈ ps, byt p ∧ p.length ≤ 140737488355328) ∧ ps.length * 24 ≤ 140737488355328 := by
  simp only [LiesB] at h
  obtain ⟨q, n, c, xs, rfl, h2, h3, hz, h4, h5, h6, h7⟩ := h
  rw [bz_row] at hz
  have hre := reach_le
  obtain ⟨ps, hl, hps⟩ := list_choose (p := fun (x : Array Value) (b : Value × List Int) => x = #[b.1] ∧ Rd w b.1 b.2 ∧ byt b.2 ∧ b.2.length ≤ 140737488355328) xs (fun x hx => by
    have h := h7 x hx
    cases hl : x.toList with
    | nil => rw [hl] at h; simp only [rowT, LiesBAll] at h
    | cons y l =>
      rw [hl] at h
      simp only [rowT, LiesBAll] at h
      obtain ⟨h8, rfl⟩ := h
      obtain ⟨bs, hr, hb, hz⟩ := sl_of h8
      exact ⟨(y, bs), Array.ext' hl, hr, hb, hz⟩)
  have ex : xs = (ps.map (·.1)).map fun v => #[v] := by
    apply List.ext_getElem
    · simp [hl]
    · intro i a b
      simp only [List.getElem_map]
      exact (hps i a (by omega)).1
  have h5' : rdS w 1 (.slice q n c) = some (ps.map (·.1)).toArray := by
    have e0 : rowT.len = 1 := rfl
    rw [e0, ex, flat1_list] at h5
    exact h5
  refine ⟨ps.map (·.2), ⟨ps.map (·.1), h5', by simp, ⟨q, c, by rw [List.length_map, hl, h4], by rw [List.length_map]; omega⟩, by rw [List.length_map]; omega, fun i a b => ?_⟩, fun p hp => ?_, by rw [List.length_map]; omega⟩
  · simp only [List.getElem_map]
    rw [List.length_map] at a
    exact (hps i (by omega) a).2.1
  · obtain ⟨b, hb, rfl⟩ := List.mem_map.1 hp
    obtain ⟨i, hi, rfl⟩ := List.getElem_of_mem hb
    exact (hps i (by omega) hi).2.2
theorem int_of {w : World} {k : IntKind} {v : Value} (h : LiesB bzT w (.int k) v) : ∃ n, v = .int k n ∧ k.min ≤ n ∧ n ≤ k.max := by
  simp only [LiesB] at h
  obtain ⟨n, rfl, hn⟩ := h
  exact ⟨n, rfl, wf_int hn⟩
theorem in_of {w : World} {x : Array Value} (h : LiesBAll bzT w inT x.toList) : ∃ y : TxI, InAt w x y ∧ y.Ok ∧ y.Sz := by
  obtain ⟨a, b, e, h1, h2⟩ := liesBAll_split h
  obtain ⟨prev, rfl, hl, hb⟩ := bytes_rep 32 a h1
  cases b with
  | nil => simp only [LiesBAll] at h2
  | cons v1 b =>
  simp only [LiesBAll] at h2
  obtain ⟨k1, h2⟩ := h2
  cases b with
  | nil => simp only [LiesBAll] at h2
  | cons v2 b =>
  simp only [LiesBAll] at h2
  obtain ⟨k2, h2⟩ := h2
  cases b with
  | nil => simp only [LiesBAll] at h2
  | cons v3 b =>
  simp only [LiesBAll] at h2
  obtain ⟨k3, h2⟩ := h2
  cases b with
  | nil => simp only [LiesBAll] at h2
  | cons v4 b =>
  simp only [LiesBAll] at h2
  obtain ⟨k4, rfl⟩ := h2
  obtain ⟨idx, rfl, hi⟩ := int_of k1
  obtain ⟨seq, rfl, hs⟩ := int_of k3
  obtain ⟨sc, hr, hsb, hsz⟩ := sl_of k2
  obtain ⟨ps, hw, hwb, hwz⟩ := rows_of k4
  have e1 : IntKind.u32.min = 0 := by decide
  have e2 : IntKind.u32.max = 4294967295 := by decide
  refine ⟨⟨prev, idx, sc, seq, ps⟩, ⟨v2, v4, ?_, hr, hw⟩, ⟨hl, hb, by dsimp only; omega, hsb, by dsimp only; omega, fun p hp => (hwb p hp).1⟩, ⟨hsz, hwz, fun p hp => (hwb p hp).2⟩⟩
  apply Array.ext'
  rw [e]; rfl
theorem ou_of {w : World} {x : Array Value} (h : LiesBAll bzT w ouT x.toList) : ∃ y : TxO, OuAt w x y ∧ y.Ok ∧ y.script.length ≤ 140737488355328 := by
  unfold ouT at h
  cases e : x.toList with
  | nil => rw [e] at h; simp only [LiesBAll] at h
  | cons v1 b =>
  rw [e] at h
  simp only [LiesBAll] at h
  obtain ⟨k1, h2⟩ := h
  cases b with
  | nil => simp only [LiesBAll] at h2
  | cons v2 b =>
  simp only [LiesBAll] at h2
  obtain ⟨k2, rfl⟩ := h2
  obtain ⟨val, rfl, hi⟩ := int_of k1
  obtain ⟨sc, hr, hsb, hsz⟩ := sl_of k2
  have e1 : IntKind.i64.min = -9223372036854775808 := by decide
  have e2 : IntKind.i64.max = 9223372036854775807 := by decide
  refine ⟨⟨val, sc⟩, ⟨v2, ?_, hr⟩, ⟨by dsimp only; omega, hsb⟩, hsz⟩
  apply Array.ext'
  rw [e]; rfl
theorem ls_of {α : Type} {w : World} {v : Value} {T : Tys} {size bytes : Nat} {R : World → Array Value → α → Prop} {φ : α → Prop} (hT : T.len = size) (hB : bzT T = bytes) (h : LiesB bzT w (.sl T) v) (hx : ∀ x : Array Value, LiesBAll bzT w T x.toList → ∃ y, R w x y ∧ φ y) :
    ∃ l : List α, ListR R size w v l ∧ (∀ y ∈ l, φ y) ∧ l.length * bytes ≤ 140737488355328 := by
  simp only [LiesB] at h
  obtain ⟨q, n, c, xs, rfl, h2, h3, hz, h4, h5, h6, h7⟩ := h
  have hre := reach_le
  rw [hT] at h5 h6
  rw [hB] at hz
  obtain ⟨l, hl, hps⟩ := list_choose (p := fun (x : Array Value) (y : α) => R w x y ∧ φ y) xs fun x hx' => hx x (h7 x hx')
  refine ⟨l, ⟨xs, hl.symm, h6, h5, ⟨q, c, by rw [hl, h4], by omega⟩, by omega, fun i a b => (hps i a b).1⟩, fun y hy => ?_, by rw [hl, h4]; omega⟩
  obtain ⟨i, hi, rfl⟩ := List.getElem_of_mem hy
  exact (hps i (by omega) hi).2
theorem tx_of {w : World} {x : Array Value} (h : LiesBAll bzT w txT x.toList) : ∃ t iv ov, x = txC t iv ov ∧ TxR w iv ov t ∧ t.Ok ∧ t.Sz := by
  unfold txT at h
  cases e : x.toList with
  | nil => rw [e] at h; simp only [LiesBAll] at h
  | cons v1 b =>
  rw [e] at h
  simp only [LiesBAll] at h
  obtain ⟨k1, h2⟩ := h
  cases b with
  | nil => simp only [LiesBAll] at h2
  | cons v2 b =>
  simp only [LiesBAll] at h2
  obtain ⟨k2, h2⟩ := h2
  cases b with
  | nil => simp only [LiesBAll] at h2
  | cons v3 b =>
  simp only [LiesBAll] at h2
  obtain ⟨k3, h2⟩ := h2
  cases b with
  | nil => simp only [LiesBAll] at h2
  | cons v4 b =>
  simp only [LiesBAll] at h2
  obtain ⟨k4, rfl⟩ := h2
  obtain ⟨ver, rfl, hv⟩ := int_of k1
  obtain ⟨lock, rfl, hk⟩ := int_of k4
  obtain ⟨ins, a1, a2, a3⟩ := ls_of (size := 36) (bytes := 96) (R := InAt) (φ := fun y => y.Ok ∧ y.Sz) rfl rfl k2 fun x h => in_of h
  obtain ⟨outs, b1, b2, b3⟩ := ls_of (size := 2) (bytes := 32) (R := OuAt) (φ := fun y => y.Ok ∧ y.script.length ≤ 140737488355328) rfl rfl k3 fun x h => ou_of h
  have e1 : IntKind.u32.min = 0 := by decide
  have e2 : IntKind.u32.max = 4294967295 := by decide
  have e3 : IntKind.i32.min = -2147483648 := by decide
  have e4 : IntKind.i32.max = 2147483647 := by decide
  refine ⟨⟨ver, ins, outs, lock⟩, v2, v3, ?_, ⟨a1, b1⟩, ⟨by dsimp only; omega, fun x hx => (a2 x hx).1, fun y hy => (b2 y hy).1, by dsimp only; omega⟩, ⟨a3, b3, fun x hx => (a2 x hx).2, fun y hy => (b2 y hy).2⟩⟩
  apply Array.ext'
  rw [e]; rfl
end Go.Proofs
namespace Go.Proofs
open Go.Vc
set_option maxRecDepth 10000

theorem conf_u8 : ∀ (bs : List Int), conf (List.replicate bs.length (.i .u8)) (bv bs) = true
  | [] => rfl
  | b :: bs => by
    have := conf_u8 bs
    simp only [bv, List.length_cons, List.replicate_succ, List.map_cons, conf, SK.ok, decide_true, Bool.true_and] at this ⊢
    exact this
theorem conf32 {D : List Int} (h : D.length = 32) : conf (skR [(32, .i .u8)]) (bv D).toArray.toList = true := by
  have := conf_u8 D
  rw [h] at this
  simpa [skR] using this
theorem eqc32 (D E : List Int) : eqc (bv D).toArray.toList (bv E).toArray.toList = decide (D = E) := by
  simp only [eqc, bv_inj]
theorem eqA32 {neg : Bool} {D E : List Int} (h1 : D.length = 32) (h2 : E.length = 32) : eqAR neg (skR [(32, .i .u8)]) (.agg (bv D).toArray) (.agg (bv E).toArray) = some (.bool (neg ^^ decide (D = E))) := by
  rw [eqA_a, if_pos ⟨conf32 h1, conf32 h2⟩, eqc32]
theorem eqA_self {D : List Int} (h1 : D.length = 32) : eqAR false (skR [(32, .i .u8)]) (.agg (bv D).toArray) (.agg (bv D).toArray) = some (.bool true) := by
  rw [eqA32 h1 h1, decide_eq_true rfl]; rfl
/-- The digest of the older way. -/
def legG (t : TxV) (i : Int) (bs : List Int) (kind : Int) : List Int :=
  if i < 0 ∨ (t.ins.length : Int) ≤ i ∨ kind % 32 = 3 ∧ (t.outs.length : Int) ≤ i then oneD else dblF (encF { t with ins := if 128 ≤ kind then ((t.ins.mapIdx (legIn i.toNat bs (kind % 32))).drop i.toNat).take 1 else t.ins.mapIdx (legIn i.toNat bs (kind % 32)), outs := outsL t i.toNat (kind % 32) } ++ lowF 4 kind)
theorem legG_len (t : TxV) (i : Int) (bs : List Int) (kind : Int) : (legG t i bs kind).length = 32 := by
  unfold legG; split
  · rfl
  · exact dblF_len _
theorem witF_len (t : TxV) (i : Int) (script : List Int) (value kind : Int) : (witF t i script value kind).length = 32 := by
  unfold witF; split
  · exact dblF_len _
  · rfl
/-- A transaction of few parts. -/
structure TxV.Lm (t : TxV) : Prop where
  ok : t.Ok
  sz : t.Sz
  ins : t.ins.length ≤ 50
  outs : t.outs.length ≤ 50
  inp : ∀ x ∈ t.ins, x.script.length ≤ 1000
  out : ∀ y ∈ t.outs, y.script.length ≤ 1000
theorem TxV.Lm.few {t : TxV} (h : t.Lm) : t.Few 100 1000 := ⟨by have := h.ins; omega, by have := h.outs; omega, h.inp, h.out⟩
theorem TxV.Lm.sm {t : TxV} (h : t.Lm) : t.Sm := ⟨by have := h.ins; omega, by have := h.outs; omega, fun x hx => ⟨by have := h.inp x hx; omega, (h.sz.inp x hx).wit, (h.sz.inp x hx).item⟩, fun y hy => by have := h.out y hy; omega⟩
theorem encF_len {t : TxV} (hok : t.Ok) (h : t.Few 100 1000) : (encF t).length ≤ 300000 := by
  have a := flatI_len (l := t.ins) (m := 1000) (fun x hx => (hok.ins x hx).len) h.iscr
  have b := flatO_len (l := t.outs) (m := 1000) h.oscr
  have c := h.ins
  have d := h.outs
  have e := (sizeF_len (n := (t.ins.length : Int))).2
  have f := (sizeF_len (n := (t.outs.length : Int))).2
  simp only [encF, List.length_append, lowF_len]
  omega
theorem outsL_mem {t : TxV} {n : Nat} {o : Int} {y : TxO} (h : y ∈ outsL t n o) : y ∈ t.outs ∨ y = ⟨-1, []⟩ := by
  unfold outsL at h
  split at h
  · cases h
  · split at h
    · obtain ⟨k, hk, rfl⟩ := List.mem_mapIdx.1 h
      split
      · exact .inr rfl
      · exact .inl (List.mem_of_mem_take (List.getElem_mem hk))
    · exact .inl h
theorem outsL_len (t : TxV) (n : Nat) (o : Int) : (outsL t n o).length ≤ t.outs.length := by
  unfold outsL
  split
  · exact Nat.zero_le _
  · split
    · rw [blankTo_len, List.length_take]; omega
    · exact Nat.le_refl _
theorem legIn_ok {i k : Nat} {bs : List Int} {o : Int} {x : TxI} (hx : x.Ok) (hb : byt bs) : (legIn i bs o k x).Ok := by
  unfold legIn
  split
  · exact ⟨hx.len, hx.prev, hx.idx, hb, hx.seq, hx.wit⟩
  · refine ⟨hx.len, hx.prev, hx.idx, byt_nil, ?_, hx.wit⟩
    dsimp only
    split
    · omega
    · exact hx.seq
theorem legIn_len {i k : Nat} {bs : List Int} {o : Int} {x : TxI} (hb : bs.length ≤ 1000) : (legIn i bs o k x).script.length ≤ 1000 := by
  unfold legIn
  split
  · exact hb
  · exact Nat.zero_le _
theorem legacy2_ok (w : World) (iv ov : Value) (t : TxV) (hT : TxR w iv ov t) (hL : t.Lm) (i : Int) (x : Value) (bs : List Int) (hx : Rd w x bs) (hb : byt bs) (hbl : bs.length ≤ 1000) (kind : Int) (hk : 0 ≤ kind ∧ kind ≤ 255) (hi64 : -9223372036854775808 ≤ i ∧ i ≤ 9223372036854775807) :
    Calls Try.prog 12 #[.agg (txC t iv ov), .int .i64 i, x, .int .u8 kind] w (Ret fun u w' => u = .agg (bv (legG t i bs kind)).toArray ∧ Ext w w') := by
  refine legacy_ok w iv ov t hT hL.ok hL.sm i x bs hx kind hk hi64 fun n hn hin l hl => ?_
  have hml : ∀ z ∈ l, z ∈ t.ins.mapIdx (legIn n bs (kind % 32)) := fun z hz => by
    rcases hl with rfl | rfl
    · exact hz
    · exact List.mem_of_mem_drop (List.mem_of_mem_take hz)
  have hll : l.length ≤ t.ins.length := by
    rcases hl with rfl | rfl
    · rw [List.length_mapIdx]; exact Nat.le_refl _
    · rw [List.length_take, List.length_drop, List.length_mapIdx]; omega
  have hzo : ∀ z ∈ l, z.Ok ∧ z.script.length ≤ 1000 := fun z hz => by
    obtain ⟨k, hk, rfl⟩ := List.mem_mapIdx.1 (hml z hz)
    exact ⟨legIn_ok (hL.ok.ins _ (List.getElem_mem hk)) hb, legIn_len hbl⟩
  have hyo : ∀ y ∈ outsL t n (kind % 32), y.Ok ∧ y.script.length ≤ 1000 := fun y hy => by
    rcases outsL_mem hy with hy | rfl
    · exact ⟨hL.ok.outs y hy, hL.out y hy⟩
    · exact ⟨⟨by dsimp only; omega, byt_nil⟩, Nat.zero_le _⟩
  have hol := outsL_len t n (kind % 32)
  have hi := hL.ins
  have ho := hL.outs
  have h1 : ({ t with ins := l, outs := outsL t n (kind % 32) } : TxV).Ok := ⟨hL.ok.ver, fun z hz => (hzo z hz).1, fun y hy => (hyo y hy).1, hL.ok.lock⟩
  have h2 : ({ t with ins := l, outs := outsL t n (kind % 32) } : TxV).Few 100 1000 := ⟨by dsimp only; omega, by dsimp only; omega, fun z hz => (hzo z hz).2, fun y hy => (hyo y hy).2⟩
  have h3 := encF_len h1 h2
  exact ⟨h1, h2, by omega⟩
theorem witness2_ok (w : World) (iv ov : Value) (t : TxV) (hT : TxR w iv ov t) (hL : t.Lm) (i : Int) (sx : Value) (script : List Int) (hs : Rd w sx script) (hsb : byt script) (hsl : script.length ≤ 1000) (value kind : Int) (hk : 0 ≤ kind ∧ kind ≤ 255) :
    Calls Try.prog 19 #[.agg (txC t iv ov), .int .i64 i, sx, .int .i64 value, .int .u8 kind] w (Ret fun u w' => u = .agg (bv (witF t i script value kind)).toArray ∧ Ext w w') :=
  witness_ok w iv ov t hT hL.ok hL.few i sx script hs hsb hsl value kind hk
/-- What is one's own is read. -/
theorem ListN.toR {α : Type} {R : Nat → World → Array Value → α → Prop} {R' : World → Array Value → α → Prop} {T size m : Nat} {w : World} {v : Value} {l : List α} (h : ListN R T size m w v l) (hR : ∀ c x, R m w c x → R' w c x) : ListR R' size w v l := by
  obtain ⟨cs, a1, a2, a3⟩ := h
  obtain ⟨q, c, f1, f2⟩ := a2.is
  have a4 := a2.mx
  exact ⟨cs, a1, a2.sz, a2.rd, ⟨q, c, by rw [f1, a1], by omega⟩, by omega, fun i x y => hR _ _ (a3 i x y)⟩
theorem TxT.r {m : Nat} {w : World} {iv ov : Value} {t : TxV} (h : TxT m w iv ov t) : TxR w iv ov t := ⟨ListN.toR h.ins fun _ _ h => by obtain ⟨sv, wv, e, h1, h2⟩ := h; exact ⟨sv, wv, e, h1.1, h2.rowR⟩, ListN.toR h.outs fun _ _ h => by obtain ⟨sv, e, h1⟩ := h; exact ⟨sv, e, h1.1⟩⟩
theorem TxT.ext {m : Nat} {w w' : World} {iv ov : Value} {t : TxV} (h : TxT m w iv ov t) (k : Ext w w') : TxT m w' iv ov t := h.keepT k fun _ h => h.elim
/-! ### What two transactions both sign -/
/-- The inputs that the older way signs. -/
def insL (t : TxV) (n : Nat) (bs : List Int) (kind : Int) : List TxI := if 128 ≤ kind then ((t.ins.mapIdx (legIn n bs (kind % 32))).drop n).take 1 else t.ins.mapIdx (legIn n bs (kind % 32))
theorem legG_at {t : TxV} {n : Nat} (bs : List Int) {kind : Int} (hn : n < t.ins.length) (h3 : kind % 32 = 3 → n < t.outs.length) : legG t n bs kind = dblF (encF { t with ins := insL t n bs kind, outs := outsL t n (kind % 32) } ++ lowF 4 kind) := by
  have h0 : ¬ ((n : Int) < 0 ∨ (t.ins.length : Int) ≤ (n : Int) ∨ kind % 32 = 3 ∧ (t.outs.length : Int) ≤ (n : Int)) := by
    rintro (h | h | ⟨h, h'⟩)
    · omega
    · omega
    · have := h3 h; omega
  unfold legG
  rw [if_neg h0]
  rfl
theorem legG_no {t : TxV} {n : Nat} (bs : List Int) {kind : Int} (h3 : kind % 32 = 3) (h4 : ¬ n < t.outs.length) : legG t n bs kind = oneD := by
  unfold legG
  rw [if_pos (.inr (.inr ⟨h3, by omega⟩))]
theorem witF_at {t : TxV} {n : Nat} (bs : List Int) {value kind : Int} (hn : n < t.ins.length) : witF t n bs value kind = dblF (witB t t.ins[n] (witP t kind) (witQ t kind) (witM t n kind) bs value kind) := by
  unfold witF
  rw [dif_pos ⟨by omega, by rw [Int.toNat_natCast]; exact hn⟩]
  rfl
theorem witB_congr {t u : TxV} {x y : TxI} {P Q M bs : List Int} {value kind : Int} (hv : u.ver = t.ver) (hl : u.lock = t.lock) (h1 : y.prev = x.prev) (h2 : y.idx = x.idx) (h4 : y.seq = x.seq) : witB u y P Q M bs value kind = witB t x P Q M bs value kind := by
  unfold witB plF
  rw [hv, hl, h1, h2, h4]
theorem witF_congr {t u : TxV} {n m : Nat} (bs : List Int) {value kind : Int} (hn : n < t.ins.length) (hm : m < u.ins.length) (hv : u.ver = t.ver) (hl : u.lock = t.lock) (h1 : u.ins[m].prev = t.ins[n].prev) (h2 : u.ins[m].idx = t.ins[n].idx) (h4 : u.ins[m].seq = t.ins[n].seq)
    (hP : witP u kind = witP t kind) (hQ : witQ u kind = witQ t kind) (hM : witM u m kind = witM t n kind) : witF u m bs value kind = witF t n bs value kind := by
  rw [witF_at bs hm, witF_at bs hn, hP, hQ, hM, witB_congr hv hl h1 h2 h4]
theorem witM_2 (t : TxV) (n : Nat) {kind : Int} (h : kind % 32 = 2) : witM t n kind = zeroD := by
  unfold witM
  rw [if_neg (by rintro (h' | h') <;> omega)]
end Go.Proofs
namespace Go.Proofs
open Go.Vc
set_option maxRecDepth 10000

def wyC (i kind : Int) (sx : Value) (value : Int) : Array Value := #[.int .i64 i, .int .u8 kind, sx, .int .i64 value]
theorem txC_flat {t : TxV} {iv ov : Value} {w : World} (hT : TxR w iv ov t) : flat (txC t iv ov) := by
  have hi1 := ListR.one hT.ins
  have ho1 := ListR.one hT.outs
  intro y hy; simp only [txC, List.mem_toArray, List.mem_cons, List.not_mem_nil, or_false] at hy; rcases hy with rfl | rfl | rfl | rfl <;> first | rfl | assumption
theorem wyC_flat {i kind value : Int} {sx : Value} (h : sx.oneCell' = true) : flat (wyC i kind sx value) := by
  intro y hy; simp only [wyC, List.mem_toArray, List.mem_cons, List.not_mem_nil, or_false] at hy; rcases hy with rfl | rfl | rfl | rfl <;> first | rfl | assumption
/-- The arguments. -/
theorem tx_arg {W : World} {v : Value} (h : ArgLiesB bzT Try.prog W 26 v) : ∃ t iv ov, v = .agg (txC t iv ov) ∧ TxR W iv ov t ∧ t.Ok ∧ t.Sz := by
  obtain ⟨cs, rfl, _⟩ := argAgg ty_tx (.inl ⟨_, Try.underlying26⟩) h.1
  obtain ⟨t, iv, ov, e, h1, h2, h3⟩ := tx_of (h.2 6 txT bz_tx ty_tx)
  exact ⟨t, iv, ov, congrArg Value.agg e, h1, h2, h3⟩
def wayT : Tys := .cons (.int .i64) (.cons (.int .u8) (.cons (.sl u8T) (.cons (.int .i64) .nil)))
theorem way_arg {W : World} {v : Value} (h : ArgLiesB bzT Try.prog W 29 v) : ∃ i kind sx value bs, v = .agg (wyC i kind sx value) ∧ (-9223372036854775808 ≤ i ∧ i ≤ 9223372036854775807) ∧ (0 ≤ kind ∧ kind ≤ 255) ∧ Rd W sx bs ∧ byt bs ∧ (-9223372036854775808 ≤ value ∧ value ≤ 9223372036854775807) := by
  obtain ⟨cs, rfl, hl⟩ := argAgg (m := 6) (a := wayT) (by kernel_rfl) (.inl ⟨_, Try.underlying29⟩) h.1
  unfold wayT at hl
  cases e : cs.toList with
  | nil => rw [e] at hl; simp only [LiesAll] at hl
  | cons v1 b =>
  rw [e] at hl
  simp only [LiesAll] at hl
  obtain ⟨k1, h2⟩ := hl
  cases b with
  | nil => simp only [LiesAll] at h2
  | cons v2 b =>
  simp only [LiesAll] at h2
  obtain ⟨k2, h2⟩ := h2
  cases b with
  | nil => simp only [LiesAll] at h2
  | cons v3 b =>
  simp only [LiesAll] at h2
  obtain ⟨k3, h2⟩ := h2
  cases b with
  | nil => simp only [LiesAll] at h2
  | cons v4 b =>
  simp only [LiesAll] at h2
  obtain ⟨k4, rfl⟩ := h2
  simp only [Lies] at k1 k2 k4
  obtain ⟨i, rfl, hi⟩ := k1
  obtain ⟨kind, rfl, hk⟩ := k2
  obtain ⟨value, rfl, hv⟩ := k4
  obtain ⟨bs, hr, hb⟩ := bytes_of k3
  have a1 := wf_int hi
  have a2 := wf_int hk
  have a3 := wf_int hv
  have e1 : IntKind.i64.min = -9223372036854775808 := by decide
  have e2 : IntKind.i64.max = 9223372036854775807 := by decide
  have e3 : IntKind.u8.min = 0 := by decide
  have e4 : IntKind.u8.max = 255 := by decide
  refine ⟨i, kind, v3, value, bs, ?_, by omega, by omega, hr, hb, by omega⟩
  congr 1
  apply Array.ext'
  rw [e]; rfl
theorem put_tx {wj : World} {t : TxV} {iv ov : Value} :
    Ext wj ((wj.alloc (.cells (zc [(1, .int .i32 0), (2, .slice none 0 0), (1, .int .u32 0)]) 26)).putN wj.heap.size 0 (txC t iv ov)) ∧ ((wj.alloc (.cells (zc [(1, .int .i32 0), (2, .slice none 0 0), (1, .int .u32 0)]) 26)).putN wj.heap.size 0 (txC t iv ov)).heap[wj.heap.size]? = some (.cells (txC t iv ov) 26 (0, 0)) :=
  ⟨((Keep.refl _ wj).alloc _).putN _ (by intro hh; exfalso; omega), by rw [heap_putN_eq (heap_new _ _ _ rfl), splice_all (by rw [txC_sz]; rfl)]⟩
end Go.Proofs
namespace Go.Proofs
open Go.Vc
set_option maxRecDepth 10000

theorem short12_ok (w : World) (v : Value) (bs : List Int) (h : Rd w v bs) :
    Calls Try.prog 9 #[v] w (Ret fun u w' => (∀ wz, Rd wz v bs → Rd wz u (bs.take 300)) ∧ w' = w) := by
  refine calls_of_cfg c9_ok (Nat.le_of_ble_eq_true rfl) ?_
  simp only [argE_nil, argE_cons, Nat.reduceAdd, Nat.zero_add]
  have hlx := h.len
  (refine W_at c9_ok ?_; refine ⟨_, rfl, ?_⟩; simp (disch := first | omega | assumption | rfl | (simp only [vcS] <;> omega) | fail) only [↓ptV_l, ↓vcA, vcB, ↓vcD, vcE, ↓reduceIte, Nat.reduceEqDiff, Nat.reduceAdd, Nat.reduceMul, Nat.reduceLeDiff, Int.reduceLE, Int.reduceLT, Int.reduceEq, Int.reduceToNat, Int.reduceAdd, Int.reduceSub, Int.reduceMul, Int.reduceNeg, reduceCtorEq, Option.bind_some, Option.map_some, List.length_cons, List.length_nil, vcM, List.getElem?_toArray, List.getElem?_cons_zero, List.getElem?_cons_succ])
  (refine W_at c9_ok ?_; refine ⟨_, rfl, ?_⟩; simp (disch := first | omega | assumption | rfl | (simp only [vcS] <;> omega) | fail) only [↓ptV_l, ↓vcA, vcB, ↓vcD, vcE, ↓reduceIte, Nat.reduceEqDiff, Nat.reduceAdd, Nat.reduceMul, Nat.reduceLeDiff, Int.reduceLE, Int.reduceLT, Int.reduceEq, Int.reduceToNat, Int.reduceAdd, Int.reduceSub, Int.reduceMul, Int.reduceNeg, reduceCtorEq, Option.bind_some, Option.map_some, List.length_cons, List.length_nil, vcM, List.getElem?_toArray, List.getElem?_cons_zero, List.getElem?_cons_succ, hlx])
  by_cases h2 : (300 : Int) < (bs.length : Nat)
  · obtain ⟨⟨q, c, rfl, hc⟩, hm, _⟩ := id h
    have k1 : (0 : Int) ≤ 300 ∧ (300 : Int) ≤ (c : Nat) := by omega
    have k2 : (300 : Int) ≤ (c : Nat) := by omega
    have hcut : ∀ wz, Rd wz (.slice q bs.length c) bs → Rd wz (.slice q 300 c) (bs.take 300) := fun wz hz => by
      have hcut := hz.cut (l := 0) (j := 300) (Nat.zero_le _) (by omega)
      rw [advA_0, Nat.sub_zero, Nat.sub_zero, List.drop_zero] at hcut
      exact hcut
    (refine W_at c9_ok ?_; refine ⟨_, rfl, ?_⟩; simp (disch := first | omega | assumption | rfl | (simp only [vcS] <;> omega) | fail) only [↓ptV_l, ↓vcA, vcB, ↓vcD, vcE, ↓reduceIte, Nat.reduceEqDiff, Nat.reduceAdd, Nat.reduceMul, Nat.reduceLeDiff, Int.reduceLE, Int.reduceLT, Int.reduceEq, Int.reduceToNat, Int.reduceAdd, Int.reduceSub, Int.reduceMul, Int.reduceNeg, reduceCtorEq, Option.bind_some, Option.map_some, List.length_cons, List.length_nil, vcM, List.getElem?_toArray, List.getElem?_cons_zero, List.getElem?_cons_succ, h2])
    (refine W_at c9_ok ?_; refine ⟨_, rfl, ?_⟩; simp (disch := first | omega | assumption | rfl | (simp only [vcS] <;> omega) | fail) only [↓ptV_l, ↓vcA, vcB, ↓vcD, vcE, ↓reduceIte, Nat.reduceEqDiff, Nat.reduceAdd, Nat.reduceMul, Nat.reduceLeDiff, Int.reduceLE, Int.reduceLT, Int.reduceEq, Int.reduceToNat, Int.reduceAdd, Int.reduceSub, Int.reduceMul, Int.reduceNeg, reduceCtorEq, Option.bind_some, Option.map_some, List.length_cons, List.length_nil, vcM, List.getElem?_toArray, List.getElem?_cons_zero, List.getElem?_cons_succ, k1, k2, advA_0, Nat.sub_zero])
    (refine W_at c9_ok ?_; refine ⟨_, rfl, ?_⟩; simp (disch := first | omega | assumption | rfl | (simp only [vcS] <;> omega) | fail) only [↓ptV_l, ↓vcA, vcB, ↓vcD, vcE, ↓reduceIte, Nat.reduceEqDiff, Nat.reduceAdd, Nat.reduceMul, Nat.reduceLeDiff, Int.reduceLE, Int.reduceLT, Int.reduceEq, Int.reduceToNat, Int.reduceAdd, Int.reduceSub, Int.reduceMul, Int.reduceNeg, reduceCtorEq, Option.bind_some, Option.map_some, List.length_cons, List.length_nil, vcM, List.getElem?_toArray, List.getElem?_cons_zero, List.getElem?_cons_succ, Ret_returned])
    exact hcut
  · (refine W_at c9_ok ?_; refine ⟨_, rfl, ?_⟩; simp (disch := first | omega | assumption | rfl | (simp only [vcS] <;> omega) | fail) only [↓ptV_l, ↓vcA, vcB, ↓vcD, vcE, ↓reduceIte, Nat.reduceEqDiff, Nat.reduceAdd, Nat.reduceMul, Nat.reduceLeDiff, Int.reduceLE, Int.reduceLT, Int.reduceEq, Int.reduceToNat, Int.reduceAdd, Int.reduceSub, Int.reduceMul, Int.reduceNeg, reduceCtorEq, Option.bind_some, Option.map_some, List.length_cons, List.length_nil, vcM, List.getElem?_toArray, List.getElem?_cons_zero, List.getElem?_cons_succ, h2])
    (refine W_at c9_ok ?_; refine ⟨_, rfl, ?_⟩; simp (disch := first | omega | assumption | rfl | (simp only [vcS] <;> omega) | fail) only [↓ptV_l, ↓vcA, vcB, ↓vcD, vcE, ↓reduceIte, Nat.reduceEqDiff, Nat.reduceAdd, Nat.reduceMul, Nat.reduceLeDiff, Int.reduceLE, Int.reduceLT, Int.reduceEq, Int.reduceToNat, Int.reduceAdd, Int.reduceSub, Int.reduceMul, Int.reduceNeg, reduceCtorEq, Option.bind_some, Option.map_some, List.length_cons, List.length_nil, vcM, List.getElem?_toArray, List.getElem?_cons_zero, List.getElem?_cons_succ])
    (refine W_at c9_ok ?_; refine ⟨_, rfl, ?_⟩; simp (disch := first | omega | assumption | rfl | (simp only [vcS] <;> omega) | fail) only [↓ptV_l, ↓vcA, vcB, ↓vcD, vcE, ↓reduceIte, Nat.reduceEqDiff, Nat.reduceAdd, Nat.reduceMul, Nat.reduceLeDiff, Int.reduceLE, Int.reduceLT, Int.reduceEq, Int.reduceToNat, Int.reduceAdd, Int.reduceSub, Int.reduceMul, Int.reduceNeg, reduceCtorEq, Option.bind_some, Option.map_some, List.length_cons, List.length_nil, vcM, List.getElem?_toArray, List.getElem?_cons_zero, List.getElem?_cons_succ, Ret_returned])
    intro wz hz
    rw [List.take_of_length_le (by omega)]
    exact hz
theorem IP.base {m m' : Nat} {w : World} {c : Array Value} {x : TxI} (h : IP m w c x) (hm : m' ≤ m) : IP m' w c x := by
  obtain ⟨sv, wv, h1, h2, h3⟩ := h
  refine ⟨sv, wv, h1, h2, ?_⟩
  rcases h3 with h3 | ⟨g, o, cap, cs, e, hg, r⟩
  · exact .inl h3
  · exact .inr ⟨g, o, cap, cs, e, Nat.le_trans hm hg, r⟩
set_option maxHeartbeats 1600000 in
theorem few12_ok (w : World) (iv ov : Value) (t : TxV) (hT : TxR w iv ov t) (hok : t.Ok) (hsz : t.Sz) :
    Calls Try.prog 8 #[.agg (txC t iv ov)] w (Ret fun u w' => ∃ t' iv' ov', u = .agg (txC t' iv' ov') ∧ TxT w.heap.size w' iv' ov' t' ∧ t'.Ok ∧ t'.Sz ∧ t'.Lim 5 300 ∧ Ext w w') := by
  refine calls_of_cfg c8_ok (Nat.le_of_ble_eq_true rfl) ?_
  simp only [argE_nil, argE_cons, Nat.reduceAdd, Nat.zero_add]
  have hfx := txC_flat hT
  have hcx : (Value.agg (txC t iv ov)).cells = txC t iv ov := rfl
  have hzx := txC_sz t iv ov
  (refine W_at c8_ok ?_; refine ⟨_, rfl, ?_⟩; simp (disch := first | omega | assumption | rfl | (simp only [vcS] <;> omega) | fail) only [↓ptV_l, ↓vcA, vcB, ↓vcD, vcE, ↓reduceIte, Nat.reduceEqDiff, Nat.reduceAdd, Nat.reduceMul, Nat.reduceLeDiff, Int.reduceLE, Int.reduceLT, Int.reduceEq, Int.reduceToNat, Int.reduceAdd, Int.reduceSub, Int.reduceMul, Int.reduceNeg, reduceCtorEq, Option.bind_some, Option.map_some, List.length_cons, List.length_nil, vcM, List.getElem?_toArray, List.getElem?_cons_zero, List.getElem?_cons_succ, hfx, hcx, hzx])
  have hE1 : Ext w (w.alloc (.cells (txC t iv ov) 26)) := (Keep.refl _ w).alloc _
  have c2 : (w.alloc (.cells (txC t iv ov) 26)).heap[w.heap.size]? = some (.cells (txC t iv ov) 26 (0, 0)) := heap_new _ _ _ rfl
  have s1 : (w.alloc (.cells (txC t iv ov) 26)).heap.size = w.heap.size + 1 := size_alloc _ _
  generalize World.alloc w _ = w1 at hE1 c2 s1 ⊢
  have hE2 : Ext w1 (w1.alloc (.cells (zc [(1, .int .i32 0), (2, .slice none 0 0), (1, .int .u32 0)]) 26)) := (Keep.refl _ w1).alloc _
  have c3 : (w1.alloc (.cells (zc [(1, .int .i32 0), (2, .slice none 0 0), (1, .int .u32 0)]) 26)).heap[w.heap.size + 1]? = some (.cells (zc [(1, .int .i32 0), (2, .slice none 0 0), (1, .int .u32 0)]) 26 (0, 0)) := heap_new _ _ _ s1.symm
  generalize World.alloc w1 _ = w2 at hE2 c3 ⊢
  have c22 := hE2.at c2 (fun h => h)
  have hE02 := hE1.ext hE2
  have hsz02 := hE02.size
  have r4 : rdO (some (.cells (txC t iv ov) 26 (0, 0))) 0 4 = some (txC t iv ov) := rdO_all _ _ _ _ rfl
  generalize hp3 : w.heap.size + 1 = p3 at c3 ⊢
  (refine W_at c8_ok ?_; refine ⟨_, rfl, ?_⟩; simp (disch := first | omega | assumption | rfl | (simp only [vcS] <;> omega) | fail) only [↓ptV_l, ↓vcA, vcB, ↓vcD, vcE, ↓reduceIte, Nat.reduceEqDiff, Nat.reduceAdd, Nat.reduceMul, Nat.reduceLeDiff, Int.reduceLE, Int.reduceLT, Int.reduceEq, Int.reduceToNat, Int.reduceAdd, Int.reduceSub, Int.reduceMul, Int.reduceNeg, reduceCtorEq, Option.bind_some, Option.map_some, List.length_cons, List.length_nil, vcM, List.getElem?_toArray, List.getElem?_cons_zero, List.getElem?_cons_succ, c22, r4])
  refine callV_ret (few_ok w2 iv ov t 5 300 (hT.ext hE02) hok hsz (by omega) (by omega)) ?_
  rintro _ w4 ⟨t', iv', ov', rfl, hT4, hok4, hsz4, hL4, hE4⟩
  have c34 := hE4.at c3 (fun h => h)
  have hzt := txC_sz t' iv' ov'
  have z4 : (zc [(1, Value.int .i32 0), (2, .slice none 0 0), (1, .int .u32 0)]).size = 4 := rfl
  have o4 : okO (some (.cells (zc [(1, .int .i32 0), (2, .slice none 0 0), (1, .int .u32 0)]) 26 (0, 0))) 0 4 = True := by simp only [okO, z4]; simp
  first | (simp (disch := first | omega | assumption | rfl | (simp only [vcS] <;> omega) | fail) only [↓ptV_l, ↓vcA, vcB, ↓vcD, vcE, ↓reduceIte, Nat.reduceEqDiff, Nat.reduceAdd, Nat.reduceMul, Nat.reduceLeDiff, Int.reduceLE, Int.reduceLT, Int.reduceEq, Int.reduceToNat, Int.reduceAdd, Int.reduceSub, Int.reduceMul, Int.reduceNeg, reduceCtorEq, Option.bind_some, Option.map_some, List.length_cons, List.length_nil, vcM, List.getElem?_toArray, List.getElem?_cons_zero, List.getElem?_cons_succ, c34, hzt, o4]) | skip
  refine ⟨txC_flat hT4.r, ?_⟩
  have hk5 : Keep (fun g => g = p3) w4 (w4.putN p3 0 (txC t' iv' ov')) := (Keep.refl _ w4).putN _ fun _ => rfl
  have hT5 := hT4.keepT hk5 fun g hg => by subst hg; exact ⟨_, _, c34, by decide, by decide, by decide, by decide⟩
  have d3 : (w4.putN p3 0 (txC t' iv' ov')).heap[p3]? = some (.cells (txC t' iv' ov') 26 (0, 0)) := by rw [heap_putN_eq c34, splice_all (by rw [z4, hzt])]
  have r5 : rdO (some (.cells (txC t' iv' ov') 26 (0, 0))) 0 4 = some (txC t' iv' ov') := rdO_all _ _ _ _ rfl
  have hE5 : Ext w (w4.putN p3 0 (txC t' iv' ov')) := (hE02.ext hE4).trans hk5 fun g hg e => by omega
  (refine W_at c8_ok ?_; refine ⟨_, rfl, ?_⟩; simp (disch := first | omega | assumption | rfl | (simp only [vcS] <;> omega) | fail) only [↓ptV_l, ↓vcA, vcB, ↓vcD, vcE, ↓reduceIte, Nat.reduceEqDiff, Nat.reduceAdd, Nat.reduceMul, Nat.reduceLeDiff, Int.reduceLE, Int.reduceLT, Int.reduceEq, Int.reduceToNat, Int.reduceAdd, Int.reduceSub, Int.reduceMul, Int.reduceNeg, reduceCtorEq, Option.bind_some, Option.map_some, List.length_cons, List.length_nil, vcM, List.getElem?_toArray, List.getElem?_cons_zero, List.getElem?_cons_succ, d3, r5, Ret_returned])
  exact ⟨t', iv', ov', rfl, ⟨ListN.imp hT5.ins hsz02 fun c x _ h => IP.base h hsz02, ListN.imp hT5.outs hsz02 fun c y _ h => h⟩, hok4, hsz4, hL4, hE5⟩
def knownF (k : Int) : Bool := decide (1 ≤ k % 128 ∧ k % 128 ≤ 3)
theorem andNot128 {x : Int} (h : 0 ≤ x ∧ x ≤ 255) : IntKind.u8.wrap (((BitVec.ofInt IntKind.u8.bits x &&& ~~~BitVec.ofInt IntKind.u8.bits 128).toNat : Nat) : Int) = x % 128 := by
  obtain ⟨n, rfl⟩ := Int.eq_ofNat_of_zero_le h.1
  have hd : ∀ n : Fin 256, IntKind.u8.wrap (((BitVec.ofInt IntKind.u8.bits ((n.val : Nat) : Int) &&& ~~~BitVec.ofInt IntKind.u8.bits 128).toNat : Nat) : Int) = ((n.val : Nat) : Int) % 128 := by decide +kernel
  exact hd ⟨n, by omega⟩
theorem known_ok (w : World) (k : Int) (hk : 0 ≤ k ∧ k ≤ 255) : Calls Try.prog 16 #[.int .u8 k] w (Ret fun u w' => u = .bool (knownF k) ∧ w' = w) := by
  refine calls_of_cfg c16_ok (Nat.le_of_ble_eq_true rfl) ?_
  simp only [argE_nil, argE_cons, Nat.reduceAdd, Nat.zero_add]
  have a1 := andNot128 hk
  (refine W_at c16_ok ?_; refine ⟨_, rfl, ?_⟩; simp (disch := first | omega | assumption | rfl | (simp only [vcS] <;> omega) | fail) only [↓ptV_l, ↓vcA, vcB, ↓vcD, vcE, ↓reduceIte, Nat.reduceEqDiff, Nat.reduceAdd, Nat.reduceMul, Nat.reduceLeDiff, Int.reduceLE, Int.reduceLT, Int.reduceEq, Int.reduceToNat, Int.reduceAdd, Int.reduceSub, Int.reduceMul, Int.reduceNeg, reduceCtorEq, Option.bind_some, Option.map_some, List.length_cons, List.length_nil, vcM, List.getElem?_toArray, List.getElem?_cons_zero, List.getElem?_cons_succ])
  (refine W_at c16_ok ?_; refine ⟨_, rfl, ?_⟩; simp (disch := first | omega | assumption | rfl | (simp only [vcS] <;> omega) | fail) only [↓ptV_l, ↓vcA, vcB, ↓vcD, vcE, ↓reduceIte, Nat.reduceEqDiff, Nat.reduceAdd, Nat.reduceMul, Nat.reduceLeDiff, Int.reduceLE, Int.reduceLT, Int.reduceEq, Int.reduceToNat, Int.reduceAdd, Int.reduceSub, Int.reduceMul, Int.reduceNeg, reduceCtorEq, Option.bind_some, Option.map_some, List.length_cons, List.length_nil, vcM, List.getElem?_toArray, List.getElem?_cons_zero, List.getElem?_cons_succ, a1])
  unfold knownF
  by_cases h1 : 1 ≤ k % 128
  · by_cases h2 : k % 128 ≤ 3
    · (refine W_at c16_ok ?_; refine ⟨_, rfl, ?_⟩; simp (disch := first | omega | assumption | rfl | (simp only [vcS] <;> omega) | fail) only [↓ptV_l, ↓vcA, vcB, ↓vcD, vcE, ↓reduceIte, Nat.reduceEqDiff, Nat.reduceAdd, Nat.reduceMul, Nat.reduceLeDiff, Int.reduceLE, Int.reduceLT, Int.reduceEq, Int.reduceToNat, Int.reduceAdd, Int.reduceSub, Int.reduceMul, Int.reduceNeg, reduceCtorEq, Option.bind_some, Option.map_some, List.length_cons, List.length_nil, vcM, List.getElem?_toArray, List.getElem?_cons_zero, List.getElem?_cons_succ, h1, h2])
      (refine W_at c16_ok ?_; refine ⟨_, rfl, ?_⟩; simp (disch := first | omega | assumption | rfl | (simp only [vcS] <;> omega) | fail) only [↓ptV_l, ↓vcA, vcB, ↓vcD, vcE, ↓reduceIte, Nat.reduceEqDiff, Nat.reduceAdd, Nat.reduceMul, Nat.reduceLeDiff, Int.reduceLE, Int.reduceLT, Int.reduceEq, Int.reduceToNat, Int.reduceAdd, Int.reduceSub, Int.reduceMul, Int.reduceNeg, reduceCtorEq, Option.bind_some, Option.map_some, List.length_cons, List.length_nil, vcM, List.getElem?_toArray, List.getElem?_cons_zero, List.getElem?_cons_succ, Ret_returned])
      all_goals simp [h1, h2]
    · (refine W_at c16_ok ?_; refine ⟨_, rfl, ?_⟩; simp (disch := first | omega | assumption | rfl | (simp only [vcS] <;> omega) | fail) only [↓ptV_l, ↓vcA, vcB, ↓vcD, vcE, ↓reduceIte, Nat.reduceEqDiff, Nat.reduceAdd, Nat.reduceMul, Nat.reduceLeDiff, Int.reduceLE, Int.reduceLT, Int.reduceEq, Int.reduceToNat, Int.reduceAdd, Int.reduceSub, Int.reduceMul, Int.reduceNeg, reduceCtorEq, Option.bind_some, Option.map_some, List.length_cons, List.length_nil, vcM, List.getElem?_toArray, List.getElem?_cons_zero, List.getElem?_cons_succ, h1, h2])
      (refine W_at c16_ok ?_; refine ⟨_, rfl, ?_⟩; simp (disch := first | omega | assumption | rfl | (simp only [vcS] <;> omega) | fail) only [↓ptV_l, ↓vcA, vcB, ↓vcD, vcE, ↓reduceIte, Nat.reduceEqDiff, Nat.reduceAdd, Nat.reduceMul, Nat.reduceLeDiff, Int.reduceLE, Int.reduceLT, Int.reduceEq, Int.reduceToNat, Int.reduceAdd, Int.reduceSub, Int.reduceMul, Int.reduceNeg, reduceCtorEq, Option.bind_some, Option.map_some, List.length_cons, List.length_nil, vcM, List.getElem?_toArray, List.getElem?_cons_zero, List.getElem?_cons_succ, Ret_returned])
      all_goals simp [h1, h2]
  · (refine W_at c16_ok ?_; refine ⟨_, rfl, ?_⟩; simp (disch := first | omega | assumption | rfl | (simp only [vcS] <;> omega) | fail) only [↓ptV_l, ↓vcA, vcB, ↓vcD, vcE, ↓reduceIte, Nat.reduceEqDiff, Nat.reduceAdd, Nat.reduceMul, Nat.reduceLeDiff, Int.reduceLE, Int.reduceLT, Int.reduceEq, Int.reduceToNat, Int.reduceAdd, Int.reduceSub, Int.reduceMul, Int.reduceNeg, reduceCtorEq, Option.bind_some, Option.map_some, List.length_cons, List.length_nil, vcM, List.getElem?_toArray, List.getElem?_cons_zero, List.getElem?_cons_succ, h1])
    (refine W_at c16_ok ?_; refine ⟨_, rfl, ?_⟩; simp (disch := first | omega | assumption | rfl | (simp only [vcS] <;> omega) | fail) only [↓ptV_l, ↓vcA, vcB, ↓vcD, vcE, ↓reduceIte, Nat.reduceEqDiff, Nat.reduceAdd, Nat.reduceMul, Nat.reduceLeDiff, Int.reduceLE, Int.reduceLT, Int.reduceEq, Int.reduceToNat, Int.reduceAdd, Int.reduceSub, Int.reduceMul, Int.reduceNeg, reduceCtorEq, Option.bind_some, Option.map_some, List.length_cons, List.length_nil, vcM, List.getElem?_toArray, List.getElem?_cons_zero, List.getElem?_cons_succ, Ret_returned])
    all_goals simp [h1]
/-! ### The fixed fact -/
def txA : TxV := ⟨0, [⟨List.replicate 32 0, 0, [], 0, []⟩], [], 0⟩
theorem txA_lm : txA.Lm := by
  have hI : ∀ x ∈ txA.ins, x = ⟨List.replicate 32 0, 0, [], 0, []⟩ := fun x hx => by simpa [txA] using hx
  refine ⟨⟨by decide, fun x hx => ?_, fun y hy => (by cases hy), by decide⟩, ⟨by decide, by decide, fun x hx => ?_, fun y hy => (by cases hy)⟩, by decide, by decide, fun x hx => ?_, fun y hy => (by cases hy)⟩
  · rw [hI x hx]; exact ⟨rfl, fun b hb => (by have := List.eq_of_mem_replicate hb; omega), by decide, byt_nil, by decide, fun b hb => (by cases hb)⟩
  · rw [hI x hx]; exact ⟨by decide, by decide, fun p hp => (by cases hp)⟩
  · rw [hI x hx]; decide
theorem legA_3 : legG txA 0 [] 3 = oneD := by
  unfold legG
  rw [if_pos (.inr (.inr ⟨by decide, by decide⟩))]
theorem legA_1 : legG txA 0 [] 1 ≠ oneD := by
  decide +kernel
end Go.Proofs
namespace Go.Proofs
open Go.Vc
set_option maxRecDepth 10000

theorem encF_congr {t u : TxV} (hv : u.ver = t.ver) (hl : u.lock = t.lock) (hI : u.ins.map encI = t.ins.map encI) (hO : u.outs.map encO = t.outs.map encO) : encF u = encF t := by
  have h1 : u.ins.length = t.ins.length := by simpa using congrArg List.length hI
  have h2 : u.outs.length = t.outs.length := by simpa using congrArg List.length hO
  unfold encF
  rw [hv, hl, h1, h2, List.flatMap_def, List.flatMap_def, hI, hO, ← List.flatMap_def, ← List.flatMap_def]
theorem legG_congr2 {t u : TxV} {n m : Nat} (bs : List Int) {kind : Int} (hn : n < t.ins.length) (hm : m < u.ins.length) (h3 : kind % 32 = 3 → (m < u.outs.length ↔ n < t.outs.length)) (hv : u.ver = t.ver) (hl : u.lock = t.lock) (hI : (insL u m bs kind).map encI = (insL t n bs kind).map encI)
    (hO : (kind % 32 = 3 → n < t.outs.length) → outsL u m (kind % 32) = outsL t n (kind % 32)) : legG u m bs kind = legG t n bs kind := by
  by_cases h4 : kind % 32 = 3 → n < t.outs.length
  · rw [legG_at bs hm fun h => (h3 h).2 (h4 h), legG_at bs hn h4]
    have e : encF { u with ins := insL u m bs kind, outs := outsL u m (kind % 32) } = encF { t with ins := insL t n bs kind, outs := outsL t n (kind % 32) } := encF_congr hv hl hI (by rw [hO h4])
    rw [e]
  · have h5 : kind % 32 = 3 := Classical.byContradiction fun h => h4 fun h' => absurd h' h
    have h6 : ¬ n < t.outs.length := fun h => h4 fun _ => h
    rw [legG_no bs h5 h6, legG_no bs h5 fun h => h6 ((h3 h5).1 h)]
/-- What isn't signed is another's. -/
def modY (n : Nat) (kind : Int) (k : Nat) (x y : TxI) : TxI :=
  { prev := if k ≠ n ∧ 128 ≤ kind then y.prev else x.prev
    idx := if k ≠ n ∧ 128 ≤ kind then y.idx else x.idx
    script := y.script
    seq := if k ≠ n ∧ (128 ≤ kind ∨ kind % 32 = 2 ∨ kind % 32 = 3) then y.seq else x.seq
    wit := y.wit }
def modI (us : List TxI) (n : Nat) (kind : Int) (k : Nat) (x : TxI) : TxI := if h : k < us.length then modY n kind k x us[k] else x
def xF (t u : TxV) (n : Nat) (kind : Int) : TxV :=
  { t with
    ins := t.ins.mapIdx (modI u.ins n kind) ++ if 128 ≤ kind then u.ins else []
    outs := if kind % 32 = 2 then u.outs else if kind % 32 = 3 ∧ n < t.outs.length then t.outs.take (n + 1) ++ u.outs else t.outs }
section
variable {t u : TxV} {n : Nat} {kind : Int}
theorem modI_n (us : List TxI) (x : TxI) : (modI us n kind n x).prev = x.prev ∧ (modI us n kind n x).idx = x.idx ∧ (modI us n kind n x).seq = x.seq := by
  unfold modI
  split
  · simp [modY]
  · exact ⟨rfl, rfl, rfl⟩
theorem modI_all (us : List TxI) (k : Nat) (x : TxI) (h : kind < 128) : (modI us n kind k x).prev = x.prev ∧ (modI us n kind k x).idx = x.idx ∧ (¬ (kind % 32 = 2 ∨ kind % 32 = 3) → (modI us n kind k x).seq = x.seq) := by
  have h2 : ¬ 128 ≤ kind := by omega
  unfold modI
  split
  · refine ⟨by simp [modY, h2], by simp [modY, h2], fun h3 => ?_⟩
    have : ¬ (k ≠ n ∧ (128 ≤ kind ∨ kind % 32 = 2 ∨ kind % 32 = 3)) := by rintro ⟨_, h | h⟩; exact h2 h; exact h3 h
    simp only [modY, if_neg this]
  · exact ⟨rfl, rfl, fun _ => rfl⟩
theorem encI_eq {x y : TxI} (h1 : y.prev = x.prev) (h2 : y.idx = x.idx) (h3 : y.script = x.script) (h4 : y.seq = x.seq) : encI y = encI x := by
  unfold encI; rw [h1, h2, h3, h4]
theorem legIn_n (bs : List Int) (o : Int) (us : List TxI) (x : TxI) : encI (legIn n bs o n (modI us n kind n x)) = encI (legIn n bs o n x) := by
  obtain ⟨h1, h2, h3⟩ := modI_n (n := n) (kind := kind) us x
  unfold legIn
  rw [if_pos rfl, if_pos rfl]
  exact encI_eq h1 h2 rfl h3
theorem xF_n (hn : n < t.ins.length) : n < (xF t u n kind).ins.length := by
  show n < (t.ins.mapIdx (modI u.ins n kind) ++ _).length
  rw [List.length_append, List.length_mapIdx]; omega
theorem xF_at (hn : n < t.ins.length) : (xF t u n kind).ins[n]'(xF_n hn) = modI u.ins n kind n t.ins[n] := by
  have e : (xF t u n kind).ins[n]? = some (modI u.ins n kind n t.ins[n]) := by
    show (t.ins.mapIdx (modI u.ins n kind) ++ _)[n]? = _
    rw [List.getElem?_append_left (by rw [List.length_mapIdx]; exact hn), List.getElem?_mapIdx, List.getElem?_eq_getElem hn]; rfl
  exact Option.some.inj ((List.getElem?_eq_getElem (xF_n hn)).symm.trans e)
theorem take1_drop {α : Type} {l : List α} {n : Nat} (h : n < l.length) : (l.drop n).take 1 = [l[n]] := by
  rw [List.drop_eq_getElem_cons h]; rfl
theorem xF_ins (h : kind < 128) : (xF t u n kind).ins = t.ins.mapIdx (modI u.ins n kind) := by
  show t.ins.mapIdx (modI u.ins n kind) ++ _ = _
  rw [if_neg (by omega), List.append_nil]
theorem xF_outs : kind % 32 = 3 → (n < (xF t u n kind).outs.length ↔ n < t.outs.length) := by
  intro h
  show n < (if kind % 32 = 2 then u.outs else if kind % 32 = 3 ∧ n < t.outs.length then t.outs.take (n + 1) ++ u.outs else t.outs).length ↔ _
  rw [if_neg (by omega)]
  by_cases h2 : n < t.outs.length
  · rw [if_pos ⟨h, h2⟩, List.length_append, List.length_take]; omega
  · rw [if_neg fun k => h2 k.2]
theorem leg_free (hn : n < t.ins.length) (bs : List Int) : legG (xF t u n kind) n bs kind = legG t n bs kind := by
  refine legG_congr2 bs hn (xF_n hn) xF_outs rfl rfl ?_ fun h4 => ?_
  · unfold insL
    by_cases h : 128 ≤ kind
    · rw [if_pos h, if_pos h]
      have hx := xF_at (u := u) (kind := kind) hn
      have hxn := xF_n (u := u) (kind := kind) hn
      rw [take1_drop (l := (xF t u n kind).ins.mapIdx (legIn n bs (kind % 32))) (by rw [List.length_mapIdx]; exact hxn), take1_drop (l := t.ins.mapIdx (legIn n bs (kind % 32))) (by rw [List.length_mapIdx]; exact hn)]
      simp only [List.map_cons, List.map_nil, List.getElem_mapIdx]
      rw [hx, legIn_n]
    · rw [if_neg h, if_neg h, xF_ins (by omega)]
      apply List.ext_getElem
      · simp
      · intro k a b
        simp only [List.getElem_map, List.getElem_mapIdx]
        by_cases hk : k = n
        · subst hk; exact legIn_n _ _ _ _
        · obtain ⟨h1, h2, h3⟩ := modI_all (n := n) (kind := kind) u.ins k (t.ins[k]'(by simpa using b)) (by omega)
          unfold legIn
          rw [if_neg hk, if_neg hk]
          refine encI_eq h1 h2 rfl ?_
          dsimp only
          split
          · rfl
          · rename_i h5; exact h3 h5
  · unfold outsL
    show (if kind % 32 = 2 then [] else if kind % 32 = 3 then blankTo n ((if kind % 32 = 2 then u.outs else if kind % 32 = 3 ∧ n < t.outs.length then t.outs.take (n + 1) ++ u.outs else t.outs).take (n + 1)) else (if kind % 32 = 2 then u.outs else if kind % 32 = 3 ∧ n < t.outs.length then t.outs.take (n + 1) ++ u.outs else t.outs)) = _
    by_cases h2 : kind % 32 = 2
    · rw [if_pos h2, if_pos h2]
    · rw [if_neg h2, if_neg h2, if_neg h2]
      by_cases h3 : kind % 32 = 3
      · have h5 := h4 h3
        rw [if_pos h3, if_pos h3, if_pos ⟨h3, h5⟩, List.take_append_of_le_length (by rw [List.length_take]; omega), List.take_take, Nat.min_self]
      · rw [if_neg h3, if_neg h3, if_neg fun k => h3 k.1]
theorem wit_free (hn : n < t.ins.length) (bs : List Int) (value : Int) : witF (xF t u n kind) n bs value kind = witF t n bs value kind := by
  have hx := xF_at (u := u) (kind := kind) hn
  obtain ⟨m1, m2, m3⟩ := modI_n (n := n) (kind := kind) u.ins t.ins[n]
  refine witF_congr bs hn (xF_n hn) rfl rfl (by rw [hx, m1]) (by rw [hx, m2]) (by rw [hx, m3]) ?_ ?_ ?_
  · unfold witP
    split
    · rename_i h
      rw [xF_ins h]
      congr 1
      rw [List.flatMap_def, List.flatMap_def]
      congr 1
      apply List.ext_getElem
      · simp
      · intro k a b
        simp only [List.getElem_map, List.getElem_mapIdx]
        obtain ⟨h1, h2, _⟩ := modI_all (n := n) (kind := kind) u.ins k (t.ins[k]'(by simpa using b)) h
        unfold plF; rw [h1, h2]
    · rfl
  · unfold witQ
    split
    · rename_i h
      rw [xF_ins h.1]
      congr 1
      rw [List.flatMap_def, List.flatMap_def]
      congr 1
      apply List.ext_getElem
      · simp
      · intro k a b
        simp only [List.getElem_map, List.getElem_mapIdx]
        obtain ⟨_, _, h3⟩ := modI_all (n := n) (kind := kind) u.ins k (t.ins[k]'(by simpa using b)) h.1
        unfold sqF; rw [h3 (by rintro (k | k); exact h.2.1 k; exact h.2.2 k)]
    · rfl
  · have ho := xF_outs (t := t) (u := u) (n := n) (kind := kind)
    by_cases h2 : kind % 32 = 2
    · rw [witM_2 _ _ h2, witM_2 _ _ h2]
    · unfold witM witS
      by_cases h3 : kind % 32 = 3
      · by_cases h5 : n < t.outs.length
        · have h6 := (ho h3).2 h5
          have cA : kind % 32 ≠ 2 ∧ kind % 32 ≠ 3 ∨ kind % 32 = 3 ∧ n < (xF t u n kind).outs.length := .inr ⟨h3, h6⟩
          have cB : kind % 32 ≠ 2 ∧ kind % 32 ≠ 3 ∨ kind % 32 = 3 ∧ n < t.outs.length := .inr ⟨h3, h5⟩
          rw [if_pos cA, if_pos cB, if_pos (⟨h3, h6⟩ : kind % 32 = 3 ∧ n < (xF t u n kind).outs.length), if_pos (⟨h3, h5⟩ : kind % 32 = 3 ∧ n < t.outs.length)]
          have e : (xF t u n kind).outs = t.outs.take (n + 1) ++ u.outs := by
            show (if kind % 32 = 2 then u.outs else if kind % 32 = 3 ∧ n < t.outs.length then t.outs.take (n + 1) ++ u.outs else t.outs) = _
            rw [if_neg h2, if_pos ⟨h3, h5⟩]
          have e2 : ((t.outs.take (n + 1) ++ u.outs).drop n).take 1 = (t.outs.drop n).take 1 := by
            rw [List.drop_append_of_le_length (by rw [List.length_take]; omega), List.take_append_of_le_length (by rw [List.length_drop, List.length_take]; omega), List.drop_take, List.take_take]
            congr 1; omega
          rw [e, e2]
        · have h6 : ¬ n < (xF t u n kind).outs.length := fun k => h5 ((ho h3).1 k)
          rw [if_neg (by rintro (k | k); exact k.2 h3; exact h6 k.2), if_neg (by rintro (k | k); exact k.2 h3; exact h5 k.2)]
      · have e : (xF t u n kind).outs = t.outs := by
          show (if kind % 32 = 2 then u.outs else if kind % 32 = 3 ∧ n < t.outs.length then t.outs.take (n + 1) ++ u.outs else t.outs) = _
          rw [if_neg h2, if_neg fun k => h3 k.1]
        rw [e]
end
end Go.Proofs
namespace Go.Proofs
open Go.Vc
set_option maxRecDepth 10000

def splL (L : List Value) (p : Nat) (cs : List Value) : List Value := L.take p ++ cs ++ L.drop (p + cs.length)
theorem spliceA_L (c cs : Array Value) (o : Nat) : (spliceA c o cs).toList = splL c.toList o cs.toList := by
  simp [spliceA, splL]
theorem splL_drop {L cs : List Value} {o p : Nat} (h : o + p ≤ L.length) : (splL L (o + p) cs).drop o = splL (L.drop o) p cs := by
  unfold splL
  rw [List.append_assoc, List.drop_append_of_le_length (by rw [List.length_take]; omega), List.drop_take, Nat.add_sub_cancel_left, List.drop_drop, List.append_assoc, Nat.add_assoc]
theorem splL_take {L cs : List Value} {p n : Nat} (h : p + cs.length ≤ n) (hn : n ≤ L.length) : (splL L p cs).take n = splL (L.take n) p cs := by
  unfold splL
  have h1 : (L.take p ++ cs).length = p + cs.length := by rw [List.length_append, List.length_take]; omega
  have e1 : (L.take p ++ cs ++ L.drop (p + cs.length)).take n = (L.take p ++ cs) ++ (L.drop (p + cs.length)).take (n - (p + cs.length)) := by
    rw [List.take_append, h1, List.take_of_length_le (l := L.take p ++ cs) (by omega)]
  rw [e1, List.take_take, Nat.min_eq_left (show p ≤ n by omega), List.drop_take]
theorem splL_flat {size : Nat} : ∀ {ids : List (Array Value)} {e : Nat} {cs : Array Value}, (∀ k ∈ ids, k.size = size) → cs.size ≤ size → (he : e < ids.length) →
    splL (ids.flatMap Array.toList) (e * size) cs.toList = (ids.set e (spliceA ids[e] 0 cs)).flatMap Array.toList
  | x :: ids, 0, cs, hs, hc, he => by
    have hx := hs x (by simp)
    rw [Nat.zero_mul]
    simp only [List.set_cons_zero, List.getElem_cons_zero, List.flatMap_cons, spliceA_L]
    unfold splL
    rw [List.take_zero, List.nil_append, Nat.zero_add, List.drop_append_of_le_length (by rw [Array.length_toList, Array.length_toList]; omega), List.take_zero, List.nil_append, ← List.append_assoc]
  | x :: ids, e + 1, cs, hs, hc, he => by
    have hx := hs x (by simp)
    have ih := splL_flat (ids := ids) (e := e) (cs := cs) (fun k hk => hs k (by simp [hk])) hc (by simpa using he)
    simp only [List.set_cons_succ, List.getElem_cons_succ, List.flatMap_cons]
    rw [← ih]
    unfold splL
    have hl : x.toList.length = size := by rw [Array.length_toList]; exact hx
    have e1 : (e + 1) * size = x.toList.length + e * size := by rw [Nat.add_mul, hl]; omega
    rw [e1, List.take_length_add_append, Nat.add_assoc, List.drop_length_add_append]
    simp only [List.append_assoc]
theorem splL_len {L cs : List Value} {p : Nat} (h : p + cs.length ≤ L.length) : (splL L p cs).length = L.length := by
  unfold splL
  rw [List.length_append, List.length_append, List.length_take, List.length_drop]; omega
theorem OwnO.putc {w : World} {base el size : Nat} {v : Value} {ids : List (Array Value)} (h : OwnO w base el size v ids) {e : Nat} (he : e < ids.length) (cs : Array Value) (hc : cs.size ≤ size) :
    ∃ g o cap cur, v = .slice (some ⟨g, o, none⟩) ids.length cap ∧ w.heap[g]? = some (.cells cur el (0, 0)) ∧ o + e * size + cs.size ≤ cur.size ∧ OwnO (w.putN g (o + e * size) cs) base el size v (ids.set e (spliceA ids[e] 0 cs)) := by
  obtain ⟨hs, ⟨rfl, rfl⟩ | ⟨g, o, cap, cur, rfl, hb, hg, hn, hcm, hle, htake⟩⟩ := h
  · simp at he
  · have h1 : (e + 1) * size ≤ ids.length * size := Nat.mul_le_mul_right _ he
    have h2 : ids.length * size ≤ cap * size := Nat.mul_le_mul_right _ hn
    rw [Nat.add_mul, Nat.one_mul] at h1
    have hcl : cs.toList.length = cs.size := Array.length_toList
    have hul : cur.toList.length = cur.size := Array.length_toList
    refine ⟨g, o, cap, cur, rfl, hg, by omega, fun k hk => ?_, .inr ⟨g, o, cap, _, by rw [List.length_set], hb, heap_putN_eq hg, by rw [List.length_set]; exact hn, hcm, ?_, ?_⟩⟩
    · rcases List.mem_or_eq_of_mem_set hk with hk | rfl
      · exact hs k hk
      · have hx := hs _ (List.getElem_mem he)
        have hxl := Array.length_toList (xs := ids[e])
        rw [← Array.length_toList, spliceA_L, splL_len (by omega), hxl]
        exact hx
    · rw [← Array.length_toList, spliceA_L, splL_len (by omega), hul]; exact hle
    · rw [List.length_set, spliceA_L, splL_drop (by omega), splL_take (by omega) (by rw [List.length_drop]; omega), htake, splL_flat hs hc he]
theorem ListN.putc {α : Type} {R : Nat → World → Array Value → α → Prop} {T size m : Nat} {w : World} {v : Value} {l : List α} (h : ListN R T size m w v l) {g o n cap i : Nat} (he : v = .slice (some ⟨g, o, none⟩) n cap) (hi : i < l.length) (cs : Array Value) (hc : cs.size ≤ size) (x' : α)
    (hnew : ∀ c, R m w c l[i] → R m (w.putN g (o + i * size) cs) (spliceA c 0 cs) x') (hR : ∀ c x, R m w c x → R m (w.putN g (o + i * size) cs) c x) :
    (∃ cur, w.heap[g]? = some (.cells cur T (0, 0)) ∧ o + i * size + cs.size ≤ cur.size) ∧ ListN R T size m (w.putN g (o + i * size) cs) v (l.set i x') := by
  obtain ⟨ds, h1, h2, h3⟩ := h
  obtain ⟨g', o', cap', cur, e, hg, hle, hO⟩ := h2.putc (e := i) (by omega) cs hc
  rw [he] at e
  injection e with e1 e2 e3
  injection e1 with e1
  injection e1 with e4 e5
  subst e4 e5
  refine ⟨⟨cur, hg, hle⟩, ds.set i (spliceA ds[i] 0 cs), by simp [h1], hO, fun k a b => ?_⟩
  rw [List.length_set] at a b
  by_cases hk : i = k
  · subst hk
    rw [List.getElem_set_self, List.getElem_set_self]
    exact hnew _ (h3 i (by omega) hi)
  · rw [List.getElem_set_ne hk, List.getElem_set_ne hk]
    exact hR _ _ (h3 k a b)
theorem iC_put {x : TxI} (hx : x.prev.length = 32) (sv wv : Value) (prev : List Int) (idx : Int) (hp : prev.length = 32) : spliceA (iC x sv wv) 0 (pC prev idx) = iC { x with prev := prev, idx := idx } sv wv := by
  apply Array.ext'
  rw [spliceA_L]
  unfold splL
  have h33 : (pC prev idx).toList.length = 33 := by rw [Array.length_toList, pC_size hp]
  rw [h33]
  simp [iC, pC, List.drop_append, bv_len, hx, bv]
theorem RowN.gp {m : Nat} {w : World} {v : Value} {ps : List (List Int)} (h : RowN m w v ps) (hb : ∀ p ∈ ps, byt p ∧ p.length ≤ 140737488355328) : GP m w v ps := by
  obtain ⟨vs, ⟨hs, ⟨rfl, e⟩ | ⟨g, o, cap, cur, rfl, hbs, hg, hn, hcm, hle, htake⟩⟩, h2, h3⟩ := h
  · have := congrArg List.length e
    rw [List.length_map, List.length_nil] at this
    exact .inl ⟨rfl, List.eq_nil_of_length_eq_zero (by omega)⟩
  · rw [List.length_map] at hn htake ⊢
    rw [flat1_list, Nat.mul_one] at htake
    rw [Nat.mul_one] at hle
    rw [h2] at hn htake ⊢
    refine .inr ⟨g, o, cap, cur, rfl, hbs, hn, by omega, hg, by omega, fun j hj => ?_⟩
    have hj2 : j < vs.length := by omega
    refine ⟨vs[j], ?_, (h3 j hj2 hj).b5 (hb _ (List.getElem_mem hj)).1 (hb _ (List.getElem_mem hj)).2⟩
    have := congrArg (fun l : List Value => l[j]?) htake
    rw [List.getElem?_take_of_lt hj, List.getElem?_drop, List.getElem?_eq_getElem hj2] at this
    rw [← this, Array.getElem?_toList]
theorem InN.ip {m : Nat} {w : World} {c : Array Value} {x : TxI} (h : InN m w c x) (hk : x.Ok) (hz : x.Sz) : IP m w c x := by
  obtain ⟨sv, wv, h1, h2, h3⟩ := h
  exact ⟨sv, wv, h1, h2.b5 hk.script hz.script, h3.gp fun p hp => ⟨hk.wit p hp, hz.item p hp⟩⟩
/-- A copy's parts, as what is handed back. -/
theorem txT_of {m : Nat} {w : World} {iv ov : Value} {t : TxV} (h1 : InsN m w iv t.ins) (h2 : OusN m w ov t.outs) (hok : t.Ok) (hsz : t.Sz) : TxT m w iv ov t :=
  ⟨ListN.imp h1 (Nat.le_refl _) fun c x hx hR => hR.ip (hok.ins x hx) (hsz.inp x hx), ListN.imp h2 (Nat.le_refl _) fun c y hy hR => hR.og (hok.outs y hy) (hsz.out y hy)⟩
end Go.Proofs
namespace Go.Proofs
open Go.Vc
set_option maxRecDepth 10000

theorem New.lt {w0 w : World} {a : Value} {xs : List Int} (h : New w0 w a xs) {g : Nat} (hg : blk a g) : g < w.heap.size := by
  obtain ⟨c, hc⟩ := row_type h.own hg
  exact lt_of_heap hc
section
variable {wB wj wk : World} {p17 p18 p19 : Nat} {P Q M : List Int}
end
end Go.Proofs
