/- What a disk makes safe. -/
import Derived.Test.YtfackfekmadjbaaD5
set_option linter.unusedSimpArgs false
set_option linter.unusedVariables false
set_option linter.constructorNameAsVariable false
namespace Go.Proofs
open Go.Vc
set_option maxRecDepth 10000

def MapS (l : List IE) (s : Int → Sec) : Prop := ∀ k, getM k l = some (.agg (bv (s k)).toArray) ∨ (getM k l = none ∧ s k = zsec)
theorem MapS.put {l : List IE} {s : Int → Sec} (h : MapS l s) (a : Int) (x : Sec) : MapS (putM a (.agg (bv x).toArray) l) (setS s a x) := by
  intro k
  rw [getM_put, setS]
  split
  · exact .inl rfl
  · exact h k
theorem settleF_succ (s : Int → Sec) (l : List Wr) {i : Nat} (h : i < l.length) : settleF s (l.take (i + 1)) = setS (settleF s (l.take i)) l[i].1 l[i].2 := by
  rw [List.take_add_one, List.getElem?_eq_getElem h]
  simp only [settleF, Option.toList_some, List.foldl_append, List.foldl_cons, List.foldl_nil]
theorem settleF_ok {s : Int → Sec} : ∀ {l : List Wr}, (∀ k, secOK (s k)) → (∀ x ∈ l, secOK x.2) → ∀ k, secOK (settleF s l k)
  | [], h, _, k => h k
  | x :: l, h, hl, k => by
    have : settleF s (x :: l) = settleF (setS s x.1 x.2) l := rfl
    rw [this]
    refine settleF_ok (fun k => ?_) (fun y hy => hl y (by simp [hy])) k
    unfold setS
    split
    · exact hl x (by simp)
    · exact h k
def settleD (d : DS) (n : Nat) : DS := { d with safe := settleF d.safe (d.queue.take n), queue := d.queue.drop n }
theorem settleD_ok {d : DS} (h : d.Ok) (n : Nat) : (settleD d n).Ok :=
  ⟨h.n, settleF_ok h.safe (fun x hx => (h.queue x (List.mem_of_mem_take hx)).1), fun x hx => h.queue x (List.mem_of_mem_drop hx), by show (d.queue.drop n).length ≤ _; rw [List.length_drop]; have := h.len; omega, h.left⟩
set_option maxHeartbeats 1600000 in
theorem settle_ok (w : World) (p r : Nat) (qv : Value) (d : DS) (n : Nat) (h : DAt w p r qv d) (hd : d.Ok) (hn : n ≤ d.queue.length) :
    Calls Try.prog 56 #[.pointer (some ⟨p, 0, none⟩), .int .i64 (n : Nat)] w (Ret fun _ w' => DTo w w' p r qv (settleD d n) ∧ Keep (fun k => k = p ∨ k = r) w w') := by
  refine calls_of_cfg c56_ok (Nat.le_of_ble_eq_true rfl) ?_
  simp only [argE_nil, argE_cons, Nat.reduceAdd, Nat.zero_add]
  obtain ⟨f, a, h1, h2⟩ := h.obj
  have hne := h.ne
  have hlq := hd.len
  obtain ⟨q, c, hqe, hqc⟩ := h.queue.is
  rw [qlen] at hqe hqc
  subst hqe
  have i1 : 0 ≤ ((n : Nat) : Int) ∧ ((n : Nat) : Int) ≤ (c : Nat) := by omega
  (refine W_at c56_ok ?_; refine ⟨_, rfl, ?_⟩; simp (disch := first | omega | assumption | rfl | (simp only [vcS] <;> omega) | fail) only [↓ptV_l, ↓vcA, vcB, ↓vcD, vcE, ↓reduceIte, Nat.reduceEqDiff, Nat.reduceAdd, Nat.reduceMul, Nat.reduceLeDiff, Int.reduceLE, Int.reduceLT, Int.reduceEq, Int.reduceToNat, Int.reduceAdd, Int.reduceSub, Int.reduceMul, Int.reduceNeg, reduceCtorEq, Option.bind_some, Option.map_some, List.length_cons, List.length_nil, vcM, List.getElem?_toArray, List.getElem?_cons_zero, List.getElem?_cons_succ, h1, i1, Int.toNat_natCast, Nat.sub_zero, advA_0])
  have L : ∀ (k i : Nat) (wj : World) (l : List IE), k + i = n → Keep (fun k => k = r) w wj → MapI wj r l → MapS l (settleF d.safe (d.queue.take i)) →
      W Try.prog (Ret fun _ w' => DTo w w' p r (.slice q d.queue.length c) (settleD d n) ∧ Keep (fun k => k = p ∨ k = r) w w') 56 7 [(0, .pointer (some ⟨p, 0, none⟩)), (1, .int .i64 (n : Nat)), (11, .slice q n c), (12, .int .i64 (n : Nat)), (13, .int .i64 (i : Nat))] wj := by
    intro k
    induction k with
    | zero =>
      intro i wj l hi hK hM hS
      have hlt : ¬ ((i : Nat) : Int) < (n : Nat) := by omega
      obtain rfl : i = n := by omega
      have hp := hK.at h1 hne.1
      have i2 : 0 ≤ ((i : Nat) : Int) ∧ ((i : Nat) : Int) ≤ (d.queue.length : Nat) := by omega
      (refine W_at c56_ok ?_; refine ⟨_, rfl, ?_⟩; simp (disch := first | omega | assumption | rfl | (simp only [vcS] <;> omega) | fail) only [↓ptV_l, ↓vcA, vcB, ↓vcD, vcE, ↓reduceIte, Nat.reduceEqDiff, Nat.reduceAdd, Nat.reduceMul, Nat.reduceLeDiff, Int.reduceLE, Int.reduceLT, Int.reduceEq, Int.reduceToNat, Int.reduceAdd, Int.reduceSub, Int.reduceMul, Int.reduceNeg, reduceCtorEq, Option.bind_some, Option.map_some, List.length_cons, List.length_nil, vcM, List.getElem?_toArray, List.getElem?_cons_zero, List.getElem?_cons_succ, hlt])
      (refine W_at c56_ok ?_; refine ⟨_, rfl, ?_⟩; simp (disch := first | omega | assumption | rfl | (simp only [vcS] <;> omega) | fail) only [↓ptV_l, ↓vcA, vcB, ↓vcD, vcE, ↓reduceIte, Nat.reduceEqDiff, Nat.reduceAdd, Nat.reduceMul, Nat.reduceLeDiff, Int.reduceLE, Int.reduceLT, Int.reduceEq, Int.reduceToNat, Int.reduceAdd, Int.reduceSub, Int.reduceMul, Int.reduceNeg, reduceCtorEq, Option.bind_some, Option.map_some, List.length_cons, List.length_nil, vcM, List.getElem?_toArray, List.getElem?_cons_zero, List.getElem?_cons_succ])
      (refine W_at c56_ok ?_; refine ⟨_, rfl, ?_⟩; simp (disch := first | omega | assumption | rfl | (simp only [vcS] <;> omega) | fail) only [↓ptV_l, ↓vcA, vcB, ↓vcD, vcE, ↓reduceIte, Nat.reduceEqDiff, Nat.reduceAdd, Nat.reduceMul, Nat.reduceLeDiff, Int.reduceLE, Int.reduceLT, Int.reduceEq, Int.reduceToNat, Int.reduceAdd, Int.reduceSub, Int.reduceMul, Int.reduceNeg, reduceCtorEq, Option.bind_some, Option.map_some, List.length_cons, List.length_nil, vcM, List.getElem?_toArray, List.getElem?_cons_zero, List.getElem?_cons_succ, hp, i2, Int.toNat_natCast])
      refine ⟨wr1_of hp (by simp), ?_⟩
      obtain ⟨q', c', e, _, hdr⟩ := h.queue.drop (l := i) (by rw [qlen]; exact hn)
      rw [qlen] at e hdr
      injection e with e1 _ e3
      subst e1 e3
      generalize hqv : Value.slice (advA 65 q c i) (d.queue.length - i) (c - i) = qv' at hdr ⊢
      have hblk : ∀ g, blk qv' g → blk (.slice q d.queue.length c) g := fun g hg => by
        subst hqv
        cases q with
        | none => simp only [advA] at hg; split at hg <;> cases hg
        | some a =>
          unfold advA at hg
          split at hg
          · exact hg
          · have h8 : some (a.add (i * 65)).block = some g := hg
            have h9 : (a.add (i * 65)).block = a.block := by unfold Addr.add; split <;> rfl
            rw [h9] at h8
            exact h8
      have hp5 : (wj.setCell ⟨p, 2, none⟩ qv').heap[p]? = some (.cells #[.int .i64 (d.n : Nat), .map (some r), qv', .int .i64 f, .bool a, .bool d.dead] 58 (0, 0)) := by rw [heap_setCell_eq hp]; rfl
      have hk5 : Keep (fun k => k = p) wj (wj.setCell ⟨p, 2, none⟩ qv') := (Keep.refl _ wj).setCell _ fun _ => rfl
      (refine W_at c56_ok ?_; refine ⟨_, rfl, ?_⟩; simp (disch := first | omega | assumption | rfl | (simp only [vcS] <;> omega) | fail) only [↓ptV_l, ↓vcA, vcB, ↓vcD, vcE, ↓reduceIte, Nat.reduceEqDiff, Nat.reduceAdd, Nat.reduceMul, Nat.reduceLeDiff, Int.reduceLE, Int.reduceLT, Int.reduceEq, Int.reduceToNat, Int.reduceAdd, Int.reduceSub, Int.reduceMul, Int.reduceNeg, reduceCtorEq, Option.bind_some, Option.map_some, List.length_cons, List.length_nil, vcM, List.getElem?_toArray, List.getElem?_cons_zero, List.getElem?_cons_succ, Ret_returned])
      have hkk : Keep (fun k => k = p ∨ k = r) w (wj.setCell ⟨p, 2, none⟩ qv') := (hK.mono fun _ e => .inr e).trans hk5 fun _ _ e => .inl e
      refine ⟨⟨qv', ⟨⟨f, a, hp5, h2⟩, ⟨l, hM.keep hk5 fun e => hne.1 e.symm, hS⟩, ?_⟩, hkk.mono fun _ h => h.elim .inl fun h => .inr (.inl h), fun g hg => .inl (hblk g hg)⟩, hkk⟩
      show OwnO _ _ _ _ qv' (List.map wcell (d.queue.drop i))
      rw [List.map_drop]
      refine hdr.keep hkk fun g hg e => ?_
      rcases e with e | e
      · subst e; exact hne.2.1 (hblk _ hg)
      · subst e; exact hne.2.2 (hblk _ hg)
    | succ k ih =>
      intro i wj l hi hK hM hS
      have hlt : ((i : Nat) : Int) < (n : Nat) := by omega
      have i2 : 0 ≤ ((i : Nat) : Int) ∧ ((i : Nat) : Int) < (n : Nat) := by omega
      have hil : i < d.queue.length := by omega
      have hp := hK.at h1 hne.1
      obtain ⟨g, o, cap, cur, e, hg, hrd⟩ := (h.queue.keep hK fun g hg e => hne.2.2 (e ▸ hg)).at (j := i) (by rw [qlen]; exact hil)
      rw [List.getElem_map] at hrd
      injection e with e1 _ e3
      subst e1 e3
      have hx := hd.queue _ (List.getElem_mem hil)
      have h65 := wcell_size hx.1.1
      have hfl := wcell_flat d.queue[i]
      have ha0 := wcell_at d.queue[i]
      have hda := wcell_data hx.1.1
      have hz65 : (zc [(1, Value.int .i64 0), (64, Value.int .u8 0)]).size = 65 := rfl
      (refine W_at c56_ok ?_; refine ⟨_, rfl, ?_⟩; simp (disch := first | omega | assumption | rfl | (simp only [vcS] <;> omega) | fail) only [↓ptV_l, ↓vcA, vcB, ↓vcD, vcE, ↓reduceIte, Nat.reduceEqDiff, Nat.reduceAdd, Nat.reduceMul, Nat.reduceLeDiff, Int.reduceLE, Int.reduceLT, Int.reduceEq, Int.reduceToNat, Int.reduceAdd, Int.reduceSub, Int.reduceMul, Int.reduceNeg, reduceCtorEq, Option.bind_some, Option.map_some, List.length_cons, List.length_nil, vcM, List.getElem?_toArray, List.getElem?_cons_zero, List.getElem?_cons_succ, hlt])
      (refine W_at c56_ok ?_; refine ⟨_, rfl, ?_⟩; simp (disch := first | omega | assumption | rfl | (simp only [vcS] <;> omega) | fail) only [↓ptV_l, ↓vcA, vcB, ↓vcD, vcE, ↓reduceIte, Nat.reduceEqDiff, Nat.reduceAdd, Nat.reduceMul, Nat.reduceLeDiff, Int.reduceLE, Int.reduceLT, Int.reduceEq, Int.reduceToNat, Int.reduceAdd, Int.reduceSub, Int.reduceMul, Int.reduceNeg, reduceCtorEq, Option.bind_some, Option.map_some, List.length_cons, List.length_nil, vcM, List.getElem?_toArray, List.getElem?_cons_zero, List.getElem?_cons_succ])
      (refine W_at c56_ok ?_; refine ⟨_, rfl, ?_⟩; simp (disch := first | omega | assumption | rfl | (simp only [vcS] <;> omega) | fail) only [↓ptV_l, ↓vcA, vcB, ↓vcD, vcE, ↓reduceIte, Nat.reduceEqDiff, Nat.reduceAdd, Nat.reduceMul, Nat.reduceLeDiff, Int.reduceLE, Int.reduceLT, Int.reduceEq, Int.reduceToNat, Int.reduceAdd, Int.reduceSub, Int.reduceMul, Int.reduceNeg, reduceCtorEq, Option.bind_some, Option.map_some, List.length_cons, List.length_nil, vcM, List.getElem?_toArray, List.getElem?_cons_zero, List.getElem?_cons_succ, i2, Int.toNat_natCast, hrd, h65])
      refine ⟨hfl, ?_⟩
      have hb8 : ((wj.alloc (.cells (zc [(1, .int .i64 0), (64, .int .u8 0)]) 77)).putN wj.heap.size 0 (wcell d.queue[i])).heap[wj.heap.size]? = some (.cells (wcell d.queue[i]) 77 (0, 0)) := by
        rw [heap_putN_eq (heap_new _ _ _ rfl), splice_all (by rw [hz65, h65])]
      have hE2 : Ext wj ((wj.alloc (.cells (zc [(1, .int .i64 0), (64, .int .u8 0)]) 77)).putN wj.heap.size 0 (wcell d.queue[i])) := ((Keep.refl _ wj).alloc _).putN _ (by intro hh; exfalso; omega)
      generalize World.putN _ _ _ _ = w2 at hb8 hE2 ⊢
      generalize wj.heap.size = b8 at hb8 ⊢
      have hp2 := hE2.at hp (fun h => h)
      have hws : IntKind.i64.wrap (((i : Nat) : Int) + 1) = ((i + 1 : Nat) : Int) := wrap_i64 (by omega) (by omega)
      (refine W_at c56_ok ?_; refine ⟨_, rfl, ?_⟩; simp (disch := first | omega | assumption | rfl | (simp only [vcS] <;> omega) | fail) only [↓ptV_l, ↓vcA, vcB, ↓vcD, vcE, ↓reduceIte, Nat.reduceEqDiff, Nat.reduceAdd, Nat.reduceMul, Nat.reduceLeDiff, Int.reduceLE, Int.reduceLT, Int.reduceEq, Int.reduceToNat, Int.reduceAdd, Int.reduceSub, Int.reduceMul, Int.reduceNeg, reduceCtorEq, Option.bind_some, Option.map_some, List.length_cons, List.length_nil, vcM, List.getElem?_toArray, List.getElem?_cons_zero, List.getElem?_cons_succ, hp2, hb8, ha0, hda, h65])
      refine MapI.put ((hM.keep hE2 (fun h => h)).keep (show Ext w2 w2.drew from (Keep.refl _ w2).drew) (fun h => h)) _ _ fun w3 hM3 hk3 => ?_
      first | (simp (disch := first | omega | assumption | rfl | (simp only [vcS] <;> omega) | fail) only [↓ptV_l, ↓vcA, vcB, ↓vcD, vcE, ↓reduceIte, Nat.reduceEqDiff, Nat.reduceAdd, Nat.reduceMul, Nat.reduceLeDiff, Int.reduceLE, Int.reduceLT, Int.reduceEq, Int.reduceToNat, Int.reduceAdd, Int.reduceSub, Int.reduceMul, Int.reduceNeg, reduceCtorEq, Option.bind_some, Option.map_some, List.length_cons, List.length_nil, vcM, List.getElem?_toArray, List.getElem?_cons_zero, List.getElem?_cons_succ]) | skip
      (refine W_at c56_ok ?_; refine ⟨_, rfl, ?_⟩; simp (disch := first | omega | assumption | rfl | (simp only [vcS] <;> omega) | fail) only [↓ptV_l, ↓vcA, vcB, ↓vcD, vcE, ↓reduceIte, Nat.reduceEqDiff, Nat.reduceAdd, Nat.reduceMul, Nat.reduceLeDiff, Int.reduceLE, Int.reduceLT, Int.reduceEq, Int.reduceToNat, Int.reduceAdd, Int.reduceSub, Int.reduceMul, Int.reduceNeg, reduceCtorEq, Option.bind_some, Option.map_some, List.length_cons, List.length_nil, vcM, List.getElem?_toArray, List.getElem?_cons_zero, List.getElem?_cons_succ, hws])
      (refine W_at c56_ok ?_; refine ⟨_, rfl, ?_⟩; simp (disch := first | omega | assumption | rfl | (simp only [vcS] <;> omega) | fail) only [↓ptV_l, ↓vcA, vcB, ↓vcD, vcE, ↓reduceIte, Nat.reduceEqDiff, Nat.reduceAdd, Nat.reduceMul, Nat.reduceLeDiff, Int.reduceLE, Int.reduceLT, Int.reduceEq, Int.reduceToNat, Int.reduceAdd, Int.reduceSub, Int.reduceMul, Int.reduceNeg, reduceCtorEq, Option.bind_some, Option.map_some, List.length_cons, List.length_nil, vcM, List.getElem?_toArray, List.getElem?_cons_zero, List.getElem?_cons_succ])
      refine ih (i + 1) w3 _ (by omega) ?_ hM3 ?_
      · exact ((hK.ext hE2).ext (Keep.refl _ w2).drew).trans hk3 fun _ _ e => e
      · rw [settleF_succ _ _ hil]
        exact hS.put _ _
  obtain ⟨l, m1, m2⟩ := h.map
  exact L n 0 w l (by omega) (Keep.refl _ w) m1 m2
def syncD (d : DS) : DS × Int := if (callD d).2 then (settleD (callD d).1 d.queue.length, 0) else ((callD d).1, 10)
theorem DTo.after {w w1 w' : World} {p r : Nat} {qv : Value} {d' : DS} (k : Keep (DB p r qv) w w1) (h : DTo w1 w' p r qv d') : DTo w w' p r qv d' := by
  obtain ⟨qv', h1, h2, h3⟩ := h
  exact ⟨qv', h1, k.trans h2 fun _ _ h => h, fun g hg => (h3 g hg).imp id fun h => Nat.le_trans k.size h⟩
theorem sync_ok (w : World) (p r : Nat) (qv : Value) (d : DS) (h : DAt w p r qv d) (hd : d.Ok) :
    Calls Try.prog 37 #[.pointer (some ⟨p, 0, none⟩)] w (Ret fun u w' => u = .int .i64 (syncD d).2 ∧ DTo w w' p r qv (syncD d).1) := by
  refine calls_of_cfg c37_ok (Nat.le_of_ble_eq_true rfl) ?_
  simp only [argE_nil, argE_cons, Nat.reduceAdd, Nat.zero_add]
  (refine W_at c37_ok ?_; refine ⟨_, rfl, ?_⟩; simp (disch := first | omega | assumption | rfl | (simp only [vcS] <;> omega) | fail) only [↓ptV_l, ↓vcA, vcB, ↓vcD, vcE, ↓reduceIte, Nat.reduceEqDiff, Nat.reduceAdd, Nat.reduceMul, Nat.reduceLeDiff, Int.reduceLE, Int.reduceLT, Int.reduceEq, Int.reduceToNat, Int.reduceAdd, Int.reduceSub, Int.reduceMul, Int.reduceNeg, reduceCtorEq, Option.bind_some, Option.map_some, List.length_cons, List.length_nil, vcM, List.getElem?_toArray, List.getElem?_cons_zero, List.getElem?_cons_succ])
  (refine W_at c37_ok ?_; refine ⟨_, rfl, ?_⟩; simp (disch := first | omega | assumption | rfl | (simp only [vcS] <;> omega) | fail) only [↓ptV_l, ↓vcA, vcB, ↓vcD, vcE, ↓reduceIte, Nat.reduceEqDiff, Nat.reduceAdd, Nat.reduceMul, Nat.reduceLeDiff, Int.reduceLE, Int.reduceLT, Int.reduceEq, Int.reduceToNat, Int.reduceAdd, Int.reduceSub, Int.reduceMul, Int.reduceNeg, reduceCtorEq, Option.bind_some, Option.map_some, List.length_cons, List.length_nil, vcM, List.getElem?_toArray, List.getElem?_cons_zero, List.getElem?_cons_succ])
  refine callV_ret (burn_ok w p r qv d h hd.left) ?_
  rintro _ w1 ⟨rfl, hD1, hk1⟩
  have hk1' : Keep (DB p r qv) w w1 := hk1.mono fun k e => .inl e
  first | (simp (disch := first | omega | assumption | rfl | (simp only [vcS] <;> omega) | fail) only [↓ptV_l, ↓vcA, vcB, ↓vcD, vcE, ↓reduceIte, Nat.reduceEqDiff, Nat.reduceAdd, Nat.reduceMul, Nat.reduceLeDiff, Int.reduceLE, Int.reduceLT, Int.reduceEq, Int.reduceToNat, Int.reduceAdd, Int.reduceSub, Int.reduceMul, Int.reduceNeg, reduceCtorEq, Option.bind_some, Option.map_some, List.length_cons, List.length_nil, vcM, List.getElem?_toArray, List.getElem?_cons_zero, List.getElem?_cons_succ]) | skip
  cases hc : (callD d).2 with
  | false =>
    have he : syncD d = ((callD d).1, 10) := by rw [syncD, hc]; rfl
    simp only [Bool.false_eq_true, if_false]
    (refine W_at c37_ok ?_; refine ⟨_, rfl, ?_⟩; simp (disch := first | omega | assumption | rfl | (simp only [vcS] <;> omega) | fail) only [↓ptV_l, ↓vcA, vcB, ↓vcD, vcE, ↓reduceIte, Nat.reduceEqDiff, Nat.reduceAdd, Nat.reduceMul, Nat.reduceLeDiff, Int.reduceLE, Int.reduceLT, Int.reduceEq, Int.reduceToNat, Int.reduceAdd, Int.reduceSub, Int.reduceMul, Int.reduceNeg, reduceCtorEq, Option.bind_some, Option.map_some, List.length_cons, List.length_nil, vcM, List.getElem?_toArray, List.getElem?_cons_zero, List.getElem?_cons_succ])
    (refine W_at c37_ok ?_; refine ⟨_, rfl, ?_⟩; simp (disch := first | omega | assumption | rfl | (simp only [vcS] <;> omega) | fail) only [↓ptV_l, ↓vcA, vcB, ↓vcD, vcE, ↓reduceIte, Nat.reduceEqDiff, Nat.reduceAdd, Nat.reduceMul, Nat.reduceLeDiff, Int.reduceLE, Int.reduceLT, Int.reduceEq, Int.reduceToNat, Int.reduceAdd, Int.reduceSub, Int.reduceMul, Int.reduceNeg, reduceCtorEq, Option.bind_some, Option.map_some, List.length_cons, List.length_nil, vcM, List.getElem?_toArray, List.getElem?_cons_zero, List.getElem?_cons_succ])
    (refine W_at c37_ok ?_; refine ⟨_, rfl, ?_⟩; simp (disch := first | omega | assumption | rfl | (simp only [vcS] <;> omega) | fail) only [↓ptV_l, ↓vcA, vcB, ↓vcD, vcE, ↓reduceIte, Nat.reduceEqDiff, Nat.reduceAdd, Nat.reduceMul, Nat.reduceLeDiff, Int.reduceLE, Int.reduceLT, Int.reduceEq, Int.reduceToNat, Int.reduceAdd, Int.reduceSub, Int.reduceMul, Int.reduceNeg, reduceCtorEq, Option.bind_some, Option.map_some, List.length_cons, List.length_nil, vcM, List.getElem?_toArray, List.getElem?_cons_zero, List.getElem?_cons_succ])
    (refine W_at c37_ok ?_; refine ⟨_, rfl, ?_⟩; simp (disch := first | omega | assumption | rfl | (simp only [vcS] <;> omega) | fail) only [↓ptV_l, ↓vcA, vcB, ↓vcD, vcE, ↓reduceIte, Nat.reduceEqDiff, Nat.reduceAdd, Nat.reduceMul, Nat.reduceLeDiff, Int.reduceLE, Int.reduceLT, Int.reduceEq, Int.reduceToNat, Int.reduceAdd, Int.reduceSub, Int.reduceMul, Int.reduceNeg, reduceCtorEq, Option.bind_some, Option.map_some, List.length_cons, List.length_nil, vcM, List.getElem?_toArray, List.getElem?_cons_zero, List.getElem?_cons_succ, Ret_returned])
    rw [he]
    exact ⟨rfl, DTo.same hD1 hk1'⟩
  | true =>
  have he : syncD d = (settleD (callD d).1 d.queue.length, 0) := by rw [syncD, hc]; rfl
  obtain ⟨cq, cn, cs⟩ := callD_q d
  obtain ⟨f, a, h1, h2⟩ := hD1.obj
  have hlq := hD1.queue.len
  rw [qlen, cq] at hlq
  simp only [if_true]
  (refine W_at c37_ok ?_; refine ⟨_, rfl, ?_⟩; simp (disch := first | omega | assumption | rfl | (simp only [vcS] <;> omega) | fail) only [↓ptV_l, ↓vcA, vcB, ↓vcD, vcE, ↓reduceIte, Nat.reduceEqDiff, Nat.reduceAdd, Nat.reduceMul, Nat.reduceLeDiff, Int.reduceLE, Int.reduceLT, Int.reduceEq, Int.reduceToNat, Int.reduceAdd, Int.reduceSub, Int.reduceMul, Int.reduceNeg, reduceCtorEq, Option.bind_some, Option.map_some, List.length_cons, List.length_nil, vcM, List.getElem?_toArray, List.getElem?_cons_zero, List.getElem?_cons_succ])
  (refine W_at c37_ok ?_; refine ⟨_, rfl, ?_⟩; simp (disch := first | omega | assumption | rfl | (simp only [vcS] <;> omega) | fail) only [↓ptV_l, ↓vcA, vcB, ↓vcD, vcE, ↓reduceIte, Nat.reduceEqDiff, Nat.reduceAdd, Nat.reduceMul, Nat.reduceLeDiff, Int.reduceLE, Int.reduceLT, Int.reduceEq, Int.reduceToNat, Int.reduceAdd, Int.reduceSub, Int.reduceMul, Int.reduceNeg, reduceCtorEq, Option.bind_some, Option.map_some, List.length_cons, List.length_nil, vcM, List.getElem?_toArray, List.getElem?_cons_zero, List.getElem?_cons_succ])
  (refine W_at c37_ok ?_; refine ⟨_, rfl, ?_⟩; simp (disch := first | omega | assumption | rfl | (simp only [vcS] <;> omega) | fail) only [↓ptV_l, ↓vcA, vcB, ↓vcD, vcE, ↓reduceIte, Nat.reduceEqDiff, Nat.reduceAdd, Nat.reduceMul, Nat.reduceLeDiff, Int.reduceLE, Int.reduceLT, Int.reduceEq, Int.reduceToNat, Int.reduceAdd, Int.reduceSub, Int.reduceMul, Int.reduceNeg, reduceCtorEq, Option.bind_some, Option.map_some, List.length_cons, List.length_nil, vcM, List.getElem?_toArray, List.getElem?_cons_zero, List.getElem?_cons_succ, h1, hlq])
  refine callV_ret (settle_ok w1 p r qv _ d.queue.length hD1 (callD_ok hd) (by rw [cq]; exact Nat.le_refl _)) ?_
  rintro _ w2 ⟨hD2, _⟩
  first | (simp (disch := first | omega | assumption | rfl | (simp only [vcS] <;> omega) | fail) only [↓ptV_l, ↓vcA, vcB, ↓vcD, vcE, ↓reduceIte, Nat.reduceEqDiff, Nat.reduceAdd, Nat.reduceMul, Nat.reduceLeDiff, Int.reduceLE, Int.reduceLT, Int.reduceEq, Int.reduceToNat, Int.reduceAdd, Int.reduceSub, Int.reduceMul, Int.reduceNeg, reduceCtorEq, Option.bind_some, Option.map_some, List.length_cons, List.length_nil, vcM, List.getElem?_toArray, List.getElem?_cons_zero, List.getElem?_cons_succ]) | skip
  (refine W_at c37_ok ?_; refine ⟨_, rfl, ?_⟩; simp (disch := first | omega | assumption | rfl | (simp only [vcS] <;> omega) | fail) only [↓ptV_l, ↓vcA, vcB, ↓vcD, vcE, ↓reduceIte, Nat.reduceEqDiff, Nat.reduceAdd, Nat.reduceMul, Nat.reduceLeDiff, Int.reduceLE, Int.reduceLT, Int.reduceEq, Int.reduceToNat, Int.reduceAdd, Int.reduceSub, Int.reduceMul, Int.reduceNeg, reduceCtorEq, Option.bind_some, Option.map_some, List.length_cons, List.length_nil, vcM, List.getElem?_toArray, List.getElem?_cons_zero, List.getElem?_cons_succ])
  (refine W_at c37_ok ?_; refine ⟨_, rfl, ?_⟩; simp (disch := first | omega | assumption | rfl | (simp only [vcS] <;> omega) | fail) only [↓ptV_l, ↓vcA, vcB, ↓vcD, vcE, ↓reduceIte, Nat.reduceEqDiff, Nat.reduceAdd, Nat.reduceMul, Nat.reduceLeDiff, Int.reduceLE, Int.reduceLT, Int.reduceEq, Int.reduceToNat, Int.reduceAdd, Int.reduceSub, Int.reduceMul, Int.reduceNeg, reduceCtorEq, Option.bind_some, Option.map_some, List.length_cons, List.length_nil, vcM, List.getElem?_toArray, List.getElem?_cons_zero, List.getElem?_cons_succ, Ret_returned])
  rw [he]
  exact ⟨rfl, hD2.after hk1'⟩
/-- Torn: a beginning of the new one over the old one. -/
def tearS (s : Int → Sec) (x : Wr) (b : Nat) : Int → Sec := setS s x.1 (x.2.take b ++ (s x.1).drop b)
def crashS (s : Int → Sec) (l : List Wr) (n b : Nat) : Int → Sec := match l.drop n with
  | [] => settleF s (l.take n)
  | x :: _ => tearS (settleF s (l.take n)) x b
def crashD (d : DS) (keep torn : Int) : DS := { d with safe := crashS d.safe d.queue (modF keep (d.queue.length + 1)).toNat (modF torn 64).toNat, queue := [], dead := false, left := -1 }
theorem crashD_ok {d : DS} (h : d.Ok) (keep torn : Int) : (crashD d keep torn).Ok := by
  refine ⟨h.n, ?_, fun x hx => (by cases hx), (by simp [crashD]), (by simp [crashD])⟩
  have h1 := settleF_ok h.safe (l := d.queue.take (modF keep (d.queue.length + 1)).toNat) (fun x hx => (h.queue x (List.mem_of_mem_take hx)).1)
  intro k
  show secOK (crashS _ _ _ _ k)
  rcases e : d.queue.drop (modF keep (d.queue.length + 1)).toNat with _ | ⟨x, l⟩
  · rw [crashS, e]; exact h1 k
  · rw [crashS, e]
    show secOK (tearS _ _ _ k)
    have hx : secOK x.2 := (h.queue x (List.mem_of_mem_drop (by rw [e]; simp))).1
    unfold tearS setS
    split
    · have hb := modF_b torn (m := 64) (by omega)
      refine ⟨?_, byt_app (byt_take hx.2 _) (byt_drop (h1 x.1).2 _)⟩
      rw [List.length_append, List.length_take, List.length_drop, hx.1, (h1 x.1).1]; omega
    · exact h1 k
/-- 'copy' of no more than there is room. -/
theorem cpy_cut {w : World} {b o n cap : Nat} {x : Value} {bs : List Int} {cur : Array Value} {t : TypeId} {K : Value → World → Prop} (hb : w.heap[b]? = some (.cells cur t (0, 0))) (ho : o + n ≤ cur.size) (hx : Rd w x bs) (hl : n ≤ bs.length)
    (hk : ∀ w', w'.heap[b]? = some (.cells (spliceA cur o (bv (bs.take n)).toArray) t (0, 0)) → Keep (fun k => k = b) w w' → K (.int .i64 (n : Nat)) w') : cpyV 1 (.slice (some ⟨b, o, none⟩) n cap) x w K := by
  obtain ⟨⟨q, c, rfl, hc⟩, hm, hr⟩ := id hx
  have hmin : Nat.min bs.length n = n := Nat.min_eq_right hl
  have h2 := (hx.cut (l := 0) (j := n) (Nat.zero_le _) hl).rd
  rw [advA_0, Nat.sub_zero, Nat.sub_zero, List.drop_zero] at h2
  have hlt : (bs.take n).length = n := by rw [List.length_take]; omega
  unfold cpyV
  simp only [hmin, h2, getV_some, Nat.mul_one]
  refine ⟨bv_flat _, fun h0 => ?_, fun h0 => ⟨b, o, rfl, okN_of hb (by omega), hk _ (heap_putN_eq hb) ((Keep.refl _ w).putN _ fun _ => rfl)⟩⟩
  subst h0
  refine hk w ?_ (Keep.refl _ w)
  rw [hb]
  have e : (bv (bs.take 0)).toArray = (#[] : Array Value) := by simp [bv]
  rw [e, spliceA_nil]
theorem tear_cells (old new : List Int) (b : Nat) (hb : b ≤ new.length) : spliceA (bv old).toArray 0 (bv (new.take b)).toArray = (bv (new.take b ++ old.drop b)).toArray := by
  apply Array.ext'
  simp only [spliceA, List.take_zero, List.nil_append, List.size_toArray, bv_len, List.length_take, bv_app, Nat.min_eq_left hb]
  simp [bv]
theorem part_rd {w : World} {b : Nat} {x : Wr} {t : TypeId} (h : w.heap[b]? = some (.cells (wcell x) t (0, 0))) (hl : x.2.length = 64) : Rd w (.slice (some ⟨b, 1, none⟩) 64 64) x.2 := by
  refine ⟨⟨_, _, by rw [hl], by omega⟩, by rw [hl]; decide, ?_⟩
  have h65 := wcell_size hl
  simp only [rdS, rdN_heap, h, Nat.mul_one]
  rw [if_neg (by decide), rdO_some _ _ _ _ _ (by omega), wcell_data hl]
set_option maxHeartbeats 3200000 in
theorem crash_ok (w : World) (p r : Nat) (qv : Value) (d : DS) (keep torn : Int) (h : DAt w p r qv d) (hd : d.Ok) :
    Calls Try.prog 40 #[.pointer (some ⟨p, 0, none⟩), .int .i64 keep, .int .i64 torn] w (Ret fun _ w' => DTo w w' p r qv (crashD d keep torn)) := by
  refine calls_of_cfg c40_ok (Nat.le_of_ble_eq_true rfl) ?_
  simp only [argE_nil, argE_cons, Nat.reduceAdd, Nat.zero_add]
  obtain ⟨f, a, h1, h2⟩ := h.obj
  have hlq := h.queue.len
  rw [qlen] at hlq
  have hl := hd.len
  have hw1 : IntKind.i64.wrap ((d.queue.length : Int) + 1) = (d.queue.length : Int) + 1 := wrap_i64 (by omega) (by omega)
  (refine W_at c40_ok ?_; refine ⟨_, rfl, ?_⟩; simp (disch := first | omega | assumption | rfl | (simp only [vcS] <;> omega) | fail) only [↓ptV_l, ↓vcA, vcB, ↓vcD, vcE, ↓reduceIte, Nat.reduceEqDiff, Nat.reduceAdd, Nat.reduceMul, Nat.reduceLeDiff, Int.reduceLE, Int.reduceLT, Int.reduceEq, Int.reduceToNat, Int.reduceAdd, Int.reduceSub, Int.reduceMul, Int.reduceNeg, reduceCtorEq, Option.bind_some, Option.map_some, List.length_cons, List.length_nil, vcM, List.getElem?_toArray, List.getElem?_cons_zero, List.getElem?_cons_succ, h1, hlq, hw1])
  refine callV_ret (modulo_ok w keep _ (by omega)) ?_
  rintro _ wq ⟨rfl, hw⟩
  obtain rfl : w = wq := hw.symm
  first | (simp (disch := first | omega | assumption | rfl | (simp only [vcS] <;> omega) | fail) only [↓ptV_l, ↓vcA, vcB, ↓vcD, vcE, ↓reduceIte, Nat.reduceEqDiff, Nat.reduceAdd, Nat.reduceMul, Nat.reduceLeDiff, Int.reduceLE, Int.reduceLT, Int.reduceEq, Int.reduceToNat, Int.reduceAdd, Int.reduceSub, Int.reduceMul, Int.reduceNeg, reduceCtorEq, Option.bind_some, Option.map_some, List.length_cons, List.length_nil, vcM, List.getElem?_toArray, List.getElem?_cons_zero, List.getElem?_cons_succ]) | skip
  have hmb := modF_b keep (m := (d.queue.length : Int) + 1) (by omega)
  have htb := modF_b torn (m := 64) (by omega)
  generalize hN : modF keep ((d.queue.length : Int) + 1) = N at hmb ⊢
  obtain ⟨n, rfl⟩ : ∃ n : Nat, N = n := ⟨N.toNat, by omega⟩
  refine callV_ret (settle_ok w p r qv d n h hd (by omega)) ?_
  rintro _ w1 ⟨⟨qv1, hD1, hk1, hb1⟩, hkk1⟩
  first | (simp (disch := first | omega | assumption | rfl | (simp only [vcS] <;> omega) | fail) only [↓ptV_l, ↓vcA, vcB, ↓vcD, vcE, ↓reduceIte, Nat.reduceEqDiff, Nat.reduceAdd, Nat.reduceMul, Nat.reduceLeDiff, Int.reduceLE, Int.reduceLT, Int.reduceEq, Int.reduceToNat, Int.reduceAdd, Int.reduceSub, Int.reduceMul, Int.reduceNeg, reduceCtorEq, Option.bind_some, Option.map_some, List.length_cons, List.length_nil, vcM, List.getElem?_toArray, List.getElem?_cons_zero, List.getElem?_cons_succ]) | skip
  have hd1 := settleD_ok hd n
  have hne1 := hD1.ne
  have hcr : crashD d keep torn = { d with safe := crashS d.safe d.queue n (modF torn 64).toNat, queue := [], dead := false, left := -1 } := by
    unfold crashD; rw [hN, Int.toNat_natCast]
  have fin : ∀ (wj : World) (l : List IE) (tl : Env), Keep (fun k => k = p ∨ k = r) w1 wj → MapI wj r l → MapS l (crashS d.safe d.queue n (modF torn 64).toNat) → (∃ f a dd, wj.heap[p]? = some (.cells #[.int .i64 (d.n : Nat), .map (some r), qv1, .int .i64 f, .bool a, .bool dd] 58 (0, 0)) ∧ -9223372036854775808 ≤ f ∧ f ≤ 9223372036854775807) →
      W Try.prog (Ret fun _ w' => DTo w w' p r qv (crashD d keep torn)) 40 1 ((0, .pointer (some ⟨p, 0, none⟩)) :: tl) wj := by
    rintro wj l tl hK hM hS ⟨f, a, dd, ho, hf⟩
    (refine W_at c40_ok ?_; refine ⟨_, rfl, ?_⟩; simp (disch := first | omega | assumption | rfl | (simp only [vcS] <;> omega) | fail) only [↓ptV_l, ↓vcA, vcB, ↓vcD, vcE, ↓reduceIte, Nat.reduceEqDiff, Nat.reduceAdd, Nat.reduceMul, Nat.reduceLeDiff, Int.reduceLE, Int.reduceLT, Int.reduceEq, Int.reduceToNat, Int.reduceAdd, Int.reduceSub, Int.reduceMul, Int.reduceNeg, reduceCtorEq, Option.bind_some, Option.map_some, List.length_cons, List.length_nil, vcM, List.getElem?_toArray, List.getElem?_cons_zero, List.getElem?_cons_succ])
    refine ⟨wr1_of ho (by simp), ?_⟩
    have g1 : (wj.setCell ⟨p, 2, none⟩ (.slice none 0 0)).heap[p]? = some (.cells #[.int .i64 (d.n : Nat), .map (some r), .slice none 0 0, .int .i64 f, .bool a, .bool dd] 58 (0, 0)) := by rw [heap_setCell_eq ho]; rfl
    have k1 : Keep (fun k => k = p) wj (wj.setCell ⟨p, 2, none⟩ (.slice none 0 0)) := (Keep.refl _ wj).setCell _ fun _ => rfl
    generalize World.setCell _ _ _ = wa at g1 k1 ⊢
    refine ⟨wr1_of g1 (by simp), ?_⟩
    have g2 : (wa.setCell ⟨p, 5, none⟩ (.bool false)).heap[p]? = some (.cells #[.int .i64 (d.n : Nat), .map (some r), .slice none 0 0, .int .i64 f, .bool a, .bool false] 58 (0, 0)) := by rw [heap_setCell_eq g1]; rfl
    have k2 := k1.setCell (b := p) (o := 5) (s := none) (.bool false) fun _ => rfl
    generalize World.setCell _ _ _ = wb at g2 k2 ⊢
    refine ⟨wr1_of g2 (by simp), ?_⟩
    have g3 : (wb.setCell ⟨p, 4, none⟩ (.bool false)).heap[p]? = some (.cells #[.int .i64 (d.n : Nat), .map (some r), .slice none 0 0, .int .i64 f, .bool false, .bool false] 58 (0, 0)) := by rw [heap_setCell_eq g2]; rfl
    have k3 := k2.setCell (b := p) (o := 4) (s := none) (.bool false) fun _ => rfl
    generalize World.setCell _ _ _ = wc at g3 k3 ⊢
    (refine W_at c40_ok ?_; refine ⟨_, rfl, ?_⟩; simp (disch := first | omega | assumption | rfl | (simp only [vcS] <;> omega) | fail) only [↓ptV_l, ↓vcA, vcB, ↓vcD, vcE, ↓reduceIte, Nat.reduceEqDiff, Nat.reduceAdd, Nat.reduceMul, Nat.reduceLeDiff, Int.reduceLE, Int.reduceLT, Int.reduceEq, Int.reduceToNat, Int.reduceAdd, Int.reduceSub, Int.reduceMul, Int.reduceNeg, reduceCtorEq, Option.bind_some, Option.map_some, List.length_cons, List.length_nil, vcM, List.getElem?_toArray, List.getElem?_cons_zero, List.getElem?_cons_succ, Ret_returned])
    rw [hcr]
    refine ⟨.slice none 0 0, ⟨⟨f, false, g3, fun _ => ⟨rfl, fun h => ?_⟩, hf⟩, ⟨l, hM.keep k3 fun e => hne1.1 e.symm, hS⟩, OwnO.nil _ _ _ _⟩, ?_, fun g hg => by cases hg⟩
    · exact absurd h (by show ¬ (0 : Int) ≤ -1; decide)
    · refine (hk1.trans hK fun k _ h => h.elim .inl fun h => .inr (.inl h)).trans k3 fun k _ e => .inl e
  obtain ⟨f1, a1, o1, o2, o3⟩ := hD1.obj
  obtain ⟨l1, m1, m2⟩ := hD1.map
  have hl1 := hD1.queue.len
  rw [qlen] at hl1
  have o1' : w1.heap[p]? = some (.cells #[.int .i64 (d.n : Nat), .map (some r), qv1, .int .i64 f1, .bool a1, .bool d.dead] 58 (0, 0)) := o1
  rcases hdr : d.queue.drop n with _ | ⟨x, rest⟩
  · have h0 : ¬ (((settleD d n).queue.length : Nat) : Int) > 0 := by
      show ¬ (((d.queue.drop n).length : Nat) : Int) > 0
      rw [hdr]; decide
    (refine W_at c40_ok ?_; refine ⟨_, rfl, ?_⟩; simp (disch := first | omega | assumption | rfl | (simp only [vcS] <;> omega) | fail) only [↓ptV_l, ↓vcA, vcB, ↓vcD, vcE, ↓reduceIte, Nat.reduceEqDiff, Nat.reduceAdd, Nat.reduceMul, Nat.reduceLeDiff, Int.reduceLE, Int.reduceLT, Int.reduceEq, Int.reduceToNat, Int.reduceAdd, Int.reduceSub, Int.reduceMul, Int.reduceNeg, reduceCtorEq, Option.bind_some, Option.map_some, List.length_cons, List.length_nil, vcM, List.getElem?_toArray, List.getElem?_cons_zero, List.getElem?_cons_succ, o1', hl1, h0])
    (refine W_at c40_ok ?_; refine ⟨_, rfl, ?_⟩; simp (disch := first | omega | assumption | rfl | (simp only [vcS] <;> omega) | fail) only [↓ptV_l, ↓vcA, vcB, ↓vcD, vcE, ↓reduceIte, Nat.reduceEqDiff, Nat.reduceAdd, Nat.reduceMul, Nat.reduceLeDiff, Int.reduceLE, Int.reduceLT, Int.reduceEq, Int.reduceToNat, Int.reduceAdd, Int.reduceSub, Int.reduceMul, Int.reduceNeg, reduceCtorEq, Option.bind_some, Option.map_some, List.length_cons, List.length_nil, vcM, List.getElem?_toArray, List.getElem?_cons_zero, List.getElem?_cons_succ])
    refine fin w1 l1 _ (Keep.refl _ w1) m1 ?_ ⟨_, _, _, o1', o3⟩
    rw [crashS, hdr]
    exact m2
  · have h0 : (((settleD d n).queue.length : Nat) : Int) > 0 := by
      show (((d.queue.drop n).length : Nat) : Int) > 0
      rw [hdr, List.length_cons]; omega
    have hq1 : OwnO w1 0 77 65 qv1 (wcell x :: rest.map wcell) := by
      have := hD1.queue
      rw [show (settleD d n).queue = d.queue.drop n from rfl, hdr] at this
      exact this
    have hx : secOK x.2 := (hd.queue x (List.mem_of_mem_drop (by rw [hdr]; simp))).1
    obtain ⟨g, o, cap, cur, rfl, hg, hrd⟩ := hq1.at (j := 0) (by simp)
    rw [Nat.zero_mul, Nat.add_zero, List.getElem_cons_zero] at hrd
    have hlc : (wcell x :: rest.map wcell).length = (settleD d n).queue.length := by
      show _ = (d.queue.drop n).length
      rw [hdr]; simp
    rw [hlc] at o1'
    have i1 : (0 : Int) < (((settleD d n).queue.length : Nat) : Int) := h0
    have hT0 : (0 : Int).toNat = 0 := rfl
    have h65 := wcell_size hx.1
    have hz65 : (zc [(1, Value.int .i64 0), (64, Value.int .u8 0)]).size = 65 := rfl
    have hz64 : (zc [(64, Value.int .u8 0)]).size = 64 := rfl
    (refine W_at c40_ok ?_; refine ⟨_, rfl, ?_⟩; simp (disch := first | omega | assumption | rfl | (simp only [vcS] <;> omega) | fail) only [↓ptV_l, ↓vcA, vcB, ↓vcD, vcE, ↓reduceIte, Nat.reduceEqDiff, Nat.reduceAdd, Nat.reduceMul, Nat.reduceLeDiff, Int.reduceLE, Int.reduceLT, Int.reduceEq, Int.reduceToNat, Int.reduceAdd, Int.reduceSub, Int.reduceMul, Int.reduceNeg, reduceCtorEq, Option.bind_some, Option.map_some, List.length_cons, List.length_nil, vcM, List.getElem?_toArray, List.getElem?_cons_zero, List.getElem?_cons_succ, o1', hl1, h0])
    (refine W_at c40_ok ?_; refine ⟨_, rfl, ?_⟩; simp (disch := first | omega | assumption | rfl | (simp only [vcS] <;> omega) | fail) only [↓ptV_l, ↓vcA, vcB, ↓vcD, vcE, ↓reduceIte, Nat.reduceEqDiff, Nat.reduceAdd, Nat.reduceMul, Nat.reduceLeDiff, Int.reduceLE, Int.reduceLT, Int.reduceEq, Int.reduceToNat, Int.reduceAdd, Int.reduceSub, Int.reduceMul, Int.reduceNeg, reduceCtorEq, Option.bind_some, Option.map_some, List.length_cons, List.length_nil, vcM, List.getElem?_toArray, List.getElem?_cons_zero, List.getElem?_cons_succ])
    (refine W_at c40_ok ?_; refine ⟨_, rfl, ?_⟩; simp (disch := first | omega | assumption | rfl | (simp only [vcS] <;> omega) | fail) only [↓ptV_l, ↓vcA, vcB, ↓vcD, vcE, ↓reduceIte, Nat.reduceEqDiff, Nat.reduceAdd, Nat.reduceMul, Nat.reduceLeDiff, Int.reduceLE, Int.reduceLT, Int.reduceEq, Int.reduceToNat, Int.reduceAdd, Int.reduceSub, Int.reduceMul, Int.reduceNeg, reduceCtorEq, Option.bind_some, Option.map_some, List.length_cons, List.length_nil, vcM, List.getElem?_toArray, List.getElem?_cons_zero, List.getElem?_cons_succ, o1', i1, hT0, Nat.zero_mul, Nat.add_zero, hrd, h65])
    refine ⟨wcell_flat x, ?_⟩
    have hb6 : ((w1.alloc (.cells (zc [(1, .int .i64 0), (64, .int .u8 0)]) 77)).putN w1.heap.size 0 (wcell x)).heap[w1.heap.size]? = some (.cells (wcell x) 77 (0, 0)) := by
      rw [heap_putN_eq (heap_new _ _ _ rfl), splice_all (by rw [hz65, h65])]
    have hE2 : Ext w1 ((w1.alloc (.cells (zc [(1, .int .i64 0), (64, .int .u8 0)]) 77)).putN w1.heap.size 0 (wcell x)) := ((Keep.refl _ w1).alloc _).putN _ (by intro hh; exfalso; omega)
    generalize World.putN _ _ _ _ = w2 at hb6 hE2 ⊢
    generalize hb6n : w1.heap.size = b6 at hb6 ⊢
    have hD2 := hD1.ext hE2
    have p2 := hE2.at o1' (fun h => h)
    have ha0 := wcell_at x
    have hE2d : Ext w2 w2.drew := (Keep.refl _ w2).drew
    have hL : ∀ wz, Ext w2 wz → lkpR (skR [(1, .i .i64)]) false (zvR true [(64, .int .u8 0)]) false wz (.map (some r)) (.int .i64 x.1) = some (.agg (bv ((settleD d n).safe x.1)).toArray) := fun wz hz => (hD2.ext hz).lkp x.1
    have hA : ∀ o, Ext w2 (w2.drew.alloc o) := fun o => hE2d.alloc o
    have pA := fun o => (hA o).at p2 (fun h => h)
    have bA := fun o => (hA o).at hb6 (fun h => h)
    have hs64 : secOK ((settleD d n).safe x.1) := hd1.safe x.1
    (refine W_at c40_ok ?_; refine ⟨_, rfl, ?_⟩; simp (disch := first | omega | assumption | rfl | (simp only [vcS] <;> omega) | (repeat' first | exact Keep.refl _ _ | assumption | refine Keep.drew ?_ | refine Keep.alloc ?_ _ | refine Keep.putN ?_ _ ?_ | refine Keep.setCell ?_ _ ?_ | refine Keep.setO ?_ _ ?_ | exact fun _ => Or.inl rfl | exact fun _ => Or.inr rfl | exact fun _ => rfl | (intro hh; exfalso; ((try simp only [vcS] at hh) <;> omega)))) only [↓ptV_l, ↓vcA, vcB, ↓vcD, vcE, ↓reduceIte, Nat.reduceEqDiff, Nat.reduceAdd, Nat.reduceMul, Nat.reduceLeDiff, Int.reduceLE, Int.reduceLT, Int.reduceEq, Int.reduceToNat, Int.reduceAdd, Int.reduceSub, Int.reduceMul, Int.reduceNeg, reduceCtorEq, Option.bind_some, Option.map_some, List.length_cons, List.length_nil, vcM, List.getElem?_toArray, List.getElem?_cons_zero, List.getElem?_cons_succ, p2, hb6, ha0, hL, hA, pA, bA])
    generalize hold : (settleD d n).safe x.1 = old at hs64 ⊢
    refine ⟨by simp [bv_len, hs64.1], bv_flat _, ?_⟩
    have hb7 : ((w2.drew.alloc (.cells (zc [(64, .int .u8 0)]) 74)).putN w2.heap.size 0 (bv old).toArray).heap[w2.heap.size]? = some (.cells (bv old).toArray 74 (0, 0)) := by
      have e0 : (w2.drew.alloc (.cells (zc [(64, .int .u8 0)]) 74)).heap[w2.heap.size]? = some (.cells (zc [(64, .int .u8 0)]) 74 (0, 0)) := heap_new _ _ _ rfl
      rw [heap_putN_eq e0, splice_all (by rw [hz64]; simp [bv_len, hs64.1])]
    have hE3 : Ext w2 ((w2.drew.alloc (.cells (zc [(64, .int .u8 0)]) 74)).putN w2.heap.size 0 (bv old).toArray) := (hA _).putN _ (by intro hh; exfalso; omega)
    have hb67 : b6 < w2.heap.size := (Array.getElem?_eq_some_iff.1 hb6).1
    clear hA pA bA hL
    generalize World.putN _ _ _ _ = w3 at hb7 hE3 ⊢
    generalize hb7n : w2.heap.size = b7 at hb7 hb67 ⊢
    have hb63 := hE3.at hb6 (fun h => h)
    have i2 : 0 ≤ (modF torn 64) ∧ (modF torn 64) ≤ ((64 : Nat) : Int) := by omega
    have hE3d : Ext w3 w3.drew := (Keep.refl _ w3).drew
    (refine W_at c40_ok ?_; refine ⟨_, rfl, ?_⟩; simp (disch := first | omega | assumption | rfl | (simp only [vcS] <;> omega) | fail) only [↓ptV_l, ↓vcA, vcB, ↓vcD, vcE, ↓reduceIte, Nat.reduceEqDiff, Nat.reduceAdd, Nat.reduceMul, Nat.reduceLeDiff, Int.reduceLE, Int.reduceLT, Int.reduceEq, Int.reduceToNat, Int.reduceAdd, Int.reduceSub, Int.reduceMul, Int.reduceNeg, reduceCtorEq, Option.bind_some, Option.map_some, List.length_cons, List.length_nil, vcM, List.getElem?_toArray, List.getElem?_cons_zero, List.getElem?_cons_succ])
    refine callV_ret (modulo_ok w3.drew torn 64 (by omega)) ?_
    rintro _ wq ⟨rfl, hw⟩
    obtain rfl : w3.drew = wq := hw.symm
    obtain ⟨tb, htb2⟩ : ∃ tb : Nat, modF torn 64 = tb := ⟨(modF torn 64).toNat, by omega⟩
    rw [htb2] at i2 htb ⊢
    have i3 : ((tb : Nat) : Int) ≤ 64 := by omega
    first | (simp (disch := first | omega | assumption | rfl | (simp only [vcS] <;> omega) | fail) only [↓ptV_l, ↓vcA, vcB, ↓vcD, vcE, ↓reduceIte, Nat.reduceEqDiff, Nat.reduceAdd, Nat.reduceMul, Nat.reduceLeDiff, Int.reduceLE, Int.reduceLT, Int.reduceEq, Int.reduceToNat, Int.reduceAdd, Int.reduceSub, Int.reduceMul, Int.reduceNeg, reduceCtorEq, Option.bind_some, Option.map_some, List.length_cons, List.length_nil, vcM, List.getElem?_toArray, List.getElem?_cons_zero, List.getElem?_cons_succ, i2, i3, Int.toNat_natCast, Nat.sub_zero, advA_0]) | skip
    have hb73 : w3.drew.heap[b7]? = some (.cells (bv old).toArray 74 (0, 0)) := hb7
    refine cpy_cut hb73 (by simp [bv_len, hs64.1]; omega) (part_rd (show w3.drew.heap[b6]? = _ from hb63) hx.1) (by rw [hx.1]; omega) fun w4 hb74 hk4 => ?_
    rw [tear_cells _ _ _ (by rw [hx.1]; omega)] at hb74
    have hE4 : Ext w1 w4 := ((hE2.ext hE3).ext hE3d).trans hk4 fun k hk e => by have := hE2.size; omega
    have hb64 := hk4.at (show w3.drew.heap[b6]? = _ from hb63) (by omega)
    have p4 := hE4.at o1' (fun h => h)
    have m4 := m1.keep hE4 (fun h => h)
    have hnew : (bv (x.2.take tb ++ old.drop tb)).toArray.size = 64 := by simp [bv_len, hx.1, hs64.1]; omega
    have hxx : (bv (x.2.take tb ++ old.drop tb)).toArray.extract 0 (0 + 64) = (bv (x.2.take tb ++ old.drop tb)).toArray := by rw [Nat.zero_add]; exact ext_all _ _ hnew
    first | (simp (disch := first | omega | assumption | rfl | (simp only [vcS] <;> omega) | fail) only [↓ptV_l, ↓vcA, vcB, ↓vcD, vcE, ↓reduceIte, Nat.reduceEqDiff, Nat.reduceAdd, Nat.reduceMul, Nat.reduceLeDiff, Int.reduceLE, Int.reduceLT, Int.reduceEq, Int.reduceToNat, Int.reduceAdd, Int.reduceSub, Int.reduceMul, Int.reduceNeg, reduceCtorEq, Option.bind_some, Option.map_some, List.length_cons, List.length_nil, vcM, List.getElem?_toArray, List.getElem?_cons_zero, List.getElem?_cons_succ]) | skip
    (refine W_at c40_ok ?_; refine ⟨_, rfl, ?_⟩; simp (disch := first | omega | assumption | rfl | (simp only [vcS] <;> omega) | fail) only [↓ptV_l, ↓vcA, vcB, ↓vcD, vcE, ↓reduceIte, Nat.reduceEqDiff, Nat.reduceAdd, Nat.reduceMul, Nat.reduceLeDiff, Int.reduceLE, Int.reduceLT, Int.reduceEq, Int.reduceToNat, Int.reduceAdd, Int.reduceSub, Int.reduceMul, Int.reduceNeg, reduceCtorEq, Option.bind_some, Option.map_some, List.length_cons, List.length_nil, vcM, List.getElem?_toArray, List.getElem?_cons_zero, List.getElem?_cons_succ, p4, hb64, ha0, hb74, hnew, hxx])
    refine MapI.put (m4.keep (show Ext w4 w4.drew from (Keep.refl _ w4).drew) (fun h => h)) _ _ fun w5 hM5 hk5 => ?_
    first | (simp (disch := first | omega | assumption | rfl | (simp only [vcS] <;> omega) | fail) only [↓ptV_l, ↓vcA, vcB, ↓vcD, vcE, ↓reduceIte, Nat.reduceEqDiff, Nat.reduceAdd, Nat.reduceMul, Nat.reduceLeDiff, Int.reduceLE, Int.reduceLT, Int.reduceEq, Int.reduceToNat, Int.reduceAdd, Int.reduceSub, Int.reduceMul, Int.reduceNeg, reduceCtorEq, Option.bind_some, Option.map_some, List.length_cons, List.length_nil, vcM, List.getElem?_toArray, List.getElem?_cons_zero, List.getElem?_cons_succ]) | skip
    have hk15 : Keep (fun k => k = r) w1 w5 := ((hE4.mono (fun _ h => h.elim)).ext (Keep.refl _ w4).drew).trans hk5 fun _ _ e => e
    refine fin w5 _ _ (hk15.mono fun _ e => .inr e) hM5 ?_ ⟨f1, a1, d.dead, by have h9 := hk15.at o1' hne1.1; rw [← hlc] at h9; exact h9, o3⟩
    have hS := MapS.put (s := (settleD d n).safe) m2 x.1 (x.2.take tb ++ old.drop tb)
    have he : crashS d.safe d.queue n (modF torn 64).toNat = setS (settleD d n).safe x.1 (x.2.take tb ++ old.drop tb) := by
      rw [crashS, hdr, htb2, Int.toNat_natCast]
      show tearS _ _ _ = _
      rw [tearS, ← hold]; rfl
    rw [he]
    exact hS
end Go.Proofs
