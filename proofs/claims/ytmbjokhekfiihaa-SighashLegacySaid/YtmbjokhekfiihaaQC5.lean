/- Laws that the last text of this claim uses, part 5: written for it, merged by program. -/
import Derived.Test.YtmbjokhekfiihaaQC4
set_option linter.unusedSimpArgs false
set_option linter.unusedVariables false
set_option linter.constructorNameAsVariable false
namespace Go.Proofs
open Go.Vc
set_option maxRecDepth 10000

theorem iC_pC {x : TxI} (hx : x.prev.length = 32) (sv wv : Value) : (iC x sv wv).extract 0 33 = pC x.prev x.idx := by
  apply Array.ext'
  have h33 : List.take 33 (bv x.prev) = bv x.prev := List.take_of_length_le (by rw [bv_len, hx]; omega)
  simp [iC, pC, List.take_append, bv_len, hx, h33]
theorem rd_pC {w : World} {g : Nat} {x : TxI} {sv wv : Value} {T : TypeId} (hx : x.prev.length = 32) (h : w.heap[g]? = some (.cells (iC x sv wv) T (0, 0))) : rdO w.heap[g]? 0 33 = some (pC x.prev x.idx) := by
  rw [h, rdO_some _ _ _ _ _ (by rw [iC_size hx]; omega), Nat.zero_add, iC_pC hx]
end Go.Proofs
namespace Go.Proofs
open Go.Vc
set_option maxRecDepth 10000

theorem zeroD_len : zeroD.length = 32 := rfl
end Go.Proofs
namespace Go.Proofs
open Go.Vc
set_option maxRecDepth 10000

theorem liesBAll_split {bz : Tys → Nat} {w : World} : ∀ {s t : Tys} {l : List Value}, LiesBAll bz w (s.app t) l → ∃ a b, l = a ++ b ∧ LiesBAll bz w s a ∧ LiesBAll bz w t b
  | .nil, t, l, h => ⟨[], l, rfl, by simp only [LiesBAll], h⟩
  | .cons u s, t, [], h => by simp only [Tys.app, LiesBAll] at h
  | .cons u s, t, v :: l, h => by
    simp only [Tys.app, LiesBAll] at h
    obtain ⟨a, b, e, h1, h2⟩ := liesBAll_split h.2
    exact ⟨v :: a, b, by rw [e]; rfl, by simp only [LiesBAll]; exact ⟨h.1, h1⟩, h2⟩
theorem bytes_rep {bz : Tys → Nat} {w : World} : ∀ (k : Nat) (l : List Value), LiesBAll bz w (Tys.rep k u8T) l → ∃ bs, l = bv bs ∧ bs.length = k ∧ byt bs
  | 0, l, h => by
    simp only [Tys.rep, LiesBAll] at h
    exact ⟨[], h, rfl, byt_nil⟩
  | k + 1, l, h => by
    simp only [Tys.rep, u8T, Tys.app] at h
    cases l with
    | nil => simp only [LiesBAll] at h
    | cons v l =>
      simp only [LiesBAll, LiesB] at h
      obtain ⟨⟨n, rfl, hn⟩, h2⟩ := h
      obtain ⟨bs, rfl, hl, hb⟩ := bytes_rep k l h2
      have := wf_int hn
      have e1 : IntKind.u8.min = 0 := by decide
      have e2 : IntKind.u8.max = 255 := by decide
      refine ⟨n :: bs, rfl, by rw [List.length_cons, hl], fun b hx => ?_⟩
      rcases List.mem_cons.1 hx with rfl | hx
      · omega
      · exact hb b hx
theorem reach_le : reachBytes ≤ 140737488355328 := by decide
theorem sl_of {w : World} {v : Value} (h : LiesB bzT w (.sl u8T) v) : ∃ bs, Rd w v bs ∧ byt bs ∧ bs.length ≤ 140737488355328 := by
  obtain ⟨bs, h1, h2⟩ := bytes_of h.lies
  refine ⟨bs, h1, h2, ?_⟩
  obtain ⟨⟨q', c', e, _⟩, _⟩ := h1
  simp only [LiesB] at h
  obtain ⟨q, n, c, xs, e2, _, _, h3, _⟩ := h
  rw [e] at e2
  injection e2 with _ e3 _
  have := reach_le
  rw [bz_u8] at h3
  omega
theorem rows_of {w : World} {v : Value} (h : LiesB bzT w (.sl rowT) v) : ∃ ps, RowR w v ps ∧ (∀ p ∈ ps, byt p ∧ p.length ≤ 140737488355328) ∧ ps.length * 24 ≤ 140737488355328 := by
  simp only [LiesB] at h
  obtain ⟨q, n, c, xs, rfl, h2, h3, hz, h4, h5, h6, h7⟩ := h
  rw [bz_row] at hz
  have hre := reach_le
  obtain ⟨ps, hl, hps⟩ := list_choose (p := fun (x : Array Value) (b : Value × List Int) => x = #[b.1] ∧ Rd w b.1 b.2 ∧ byt b.2 ∧ b.2.length ≤ 140737488355328) xs (fun x hx => by
    have h := h7 x hx
    cases hl : x.toList with
    | nil => rw [hl] at h; simp only [rowT, LiesBAll] at h
    | cons y l =>
      rw [hl] at h
      simp only [rowT, LiesBAll] at h
      obtain ⟨h8, rfl⟩ := h
      obtain ⟨bs, hr, hb, hz⟩ := sl_of h8
      exact ⟨(y, bs), Array.ext' hl, hr, hb, hz⟩)
  have ex : xs = (ps.map (·.1)).map fun v => #[v] := by
    apply List.ext_getElem
    · simp [hl]
    · intro i a b
      simp only [List.getElem_map]
      exact (hps i a (by omega)).1
  have h5' : rdS w 1 (.slice q n c) = some (ps.map (·.1)).toArray := by
    have e0 : rowT.len = 1 := rfl
    rw [e0, ex, flat1_list] at h5
    exact h5
  refine ⟨ps.map (·.2), ⟨ps.map (·.1), h5', by simp, ⟨q, c, by rw [List.length_map, hl, h4], by rw [List.length_map]; omega⟩, by rw [List.length_map]; omega, fun i a b => ?_⟩, fun p hp => ?_, by rw [List.length_map]; omega⟩
  · simp only [List.getElem_map]
    rw [List.length_map] at a
    exact (hps i (by omega) a).2.1
  · obtain ⟨b, hb, rfl⟩ := List.mem_map.1 hp
    obtain ⟨i, hi, rfl⟩ := List.getElem_of_mem hb
    exact (hps i (by omega) hi).2.2
theorem int_of {w : World} {k : IntKind} {v : Value} (h : LiesB bzT w (.int k) v) : ∃ n, v = .int k n ∧ k.min ≤ n ∧ n ≤ k.max := by
  simp only [LiesB] at h
  obtain ⟨n, rfl, hn⟩ := h
  exact ⟨n, rfl, wf_int hn⟩
theorem in_of {w : World} {x : Array Value} (h : LiesBAll bzT w inT x.toList) : ∃ y : TxI, InAt w x y ∧ y.Ok ∧ y.Sz := by
  obtain ⟨a, b, e, h1, h2⟩ := liesBAll_split h
  obtain ⟨prev, rfl, hl, hb⟩ := bytes_rep 32 a h1
  cases b with
  | nil => simp only [LiesBAll] at h2
  | cons v1 b =>
  simp only [LiesBAll] at h2
  obtain ⟨k1, h2⟩ := h2
  cases b with
  | nil => simp only [] at h2
  | cons v2 b =>
  simp only [] at h2
  obtain ⟨k2, h2⟩ := h2
  cases b with
  | nil => simp only [] at h2
  | cons v3 b =>
  simp only [] at h2
  obtain ⟨k3, h2⟩ := h2
  cases b with
  | nil => simp only [] at h2
  | cons v4 b =>
  simp only [] at h2
  obtain ⟨k4, rfl⟩ := h2
  obtain ⟨idx, rfl, hi⟩ := int_of k1
  obtain ⟨seq, rfl, hs⟩ := int_of k3
  obtain ⟨sc, hr, hsb, hsz⟩ := sl_of k2
  obtain ⟨ps, hw, hwb, hwz⟩ := rows_of k4
  have e1 : IntKind.u32.min = 0 := by decide
  have e2 : IntKind.u32.max = 4294967295 := by decide
  refine ⟨⟨prev, idx, sc, seq, ps⟩, ⟨v2, v4, ?_, hr, hw⟩, ⟨hl, hb, by dsimp only; omega, hsb, by dsimp only; omega, fun p hp => (hwb p hp).1⟩, ⟨hsz, hwz, fun p hp => (hwb p hp).2⟩⟩
  apply Array.ext'
  rw [e]; rfl
theorem ou_of {w : World} {x : Array Value} (h : LiesBAll bzT w ouT x.toList) : ∃ y : TxO, OuAt w x y ∧ y.Ok ∧ y.script.length ≤ 140737488355328 := by
  unfold ouT at h
  cases e : x.toList with
  | nil => rw [e] at h; simp only [LiesBAll] at h
  | cons v1 b =>
  rw [e] at h
  simp only [LiesBAll] at h
  obtain ⟨k1, h2⟩ := h
  cases b with
  | nil => simp only [] at h2
  | cons v2 b =>
  simp only [] at h2
  obtain ⟨k2, rfl⟩ := h2
  obtain ⟨val, rfl, hi⟩ := int_of k1
  obtain ⟨sc, hr, hsb, hsz⟩ := sl_of k2
  have e1 : IntKind.i64.min = -9223372036854775808 := by decide
  have e2 : IntKind.i64.max = 9223372036854775807 := by decide
  refine ⟨⟨val, sc⟩, ⟨v2, ?_, hr⟩, ⟨by dsimp only; omega, hsb⟩, hsz⟩
  apply Array.ext'
  rw [e]; rfl
theorem ls_of {α : Type} {w : World} {v : Value} {T : Tys} {size bytes : Nat} {R : World → Array Value → α → Prop} {φ : α → Prop} (hT : T.len = size) (hB : bzT T = bytes) (h : LiesB bzT w (.sl T) v) (hx : ∀ x : Array Value, LiesBAll bzT w T x.toList → ∃ y, R w x y ∧ φ y) :
    ∃ l : List α, ListR R size w v l ∧ (∀ y ∈ l, φ y) ∧ l.length * bytes ≤ 140737488355328 := by
  simp only [LiesB] at h
  obtain ⟨q, n, c, xs, rfl, h2, h3, hz, h4, h5, h6, h7⟩ := h
  have hre := reach_le
  rw [hT] at h5 h6
  rw [hB] at hz
  obtain ⟨l, hl, hps⟩ := list_choose (p := fun (x : Array Value) (y : α) => R w x y ∧ φ y) xs fun x hx' => hx x (h7 x hx')
  refine ⟨l, ⟨xs, hl.symm, h6, h5, ⟨q, c, by rw [hl, h4], by omega⟩, by omega, fun i a b => (hps i a b).1⟩, fun y hy => ?_, by rw [hl, h4]; omega⟩
  obtain ⟨i, hi, rfl⟩ := List.getElem_of_mem hy
  exact (hps i (by omega) hi).2
theorem tx_of {w : World} {x : Array Value} (h : LiesBAll bzT w txT x.toList) : ∃ t iv ov, x = txC t iv ov ∧ TxR w iv ov t ∧ t.Ok ∧ t.Sz := by
  unfold txT at h
  cases e : x.toList with
  | nil => rw [e] at h; simp only [LiesBAll] at h
  | cons v1 b =>
  rw [e] at h
  simp only [LiesBAll] at h
  obtain ⟨k1, h2⟩ := h
  cases b with
  | nil => simp only [] at h2
  | cons v2 b =>
  simp only [] at h2
  obtain ⟨k2, h2⟩ := h2
  cases b with
  | nil => simp only [] at h2
  | cons v3 b =>
  simp only [] at h2
  obtain ⟨k3, h2⟩ := h2
  cases b with
  | nil => simp only [] at h2
  | cons v4 b =>
  simp only [] at h2
  obtain ⟨k4, rfl⟩ := h2
  obtain ⟨ver, rfl, hv⟩ := int_of k1
  obtain ⟨lock, rfl, hk⟩ := int_of k4
  obtain ⟨ins, a1, a2, a3⟩ := ls_of (size := 36) (bytes := 96) (R := InAt) (φ := fun y => y.Ok ∧ y.Sz) rfl rfl k2 fun x h => in_of h
  obtain ⟨outs, b1, b2, b3⟩ := ls_of (size := 2) (bytes := 32) (R := OuAt) (φ := fun y => y.Ok ∧ y.script.length ≤ 140737488355328) rfl rfl k3 fun x h => ou_of h
  have e1 : IntKind.u32.min = 0 := by decide
  have e2 : IntKind.u32.max = 4294967295 := by decide
  have e3 : IntKind.i32.min = -2147483648 := by decide
  have e4 : IntKind.i32.max = 2147483647 := by decide
  refine ⟨⟨ver, ins, outs, lock⟩, v2, v3, ?_, ⟨a1, b1⟩, ⟨by dsimp only; omega, fun x hx => (a2 x hx).1, fun y hy => (b2 y hy).1, by dsimp only; omega⟩, ⟨a3, b3, fun x hx => (a2 x hx).2, fun y hy => (b2 y hy).2⟩⟩
  apply Array.ext'
  rw [e]; rfl
end Go.Proofs
namespace Go.Proofs
open Go.Vc
set_option maxRecDepth 10000

theorem conf_u8 : ∀ (bs : List Int), conf (List.replicate bs.length (.i .u8)) (bv bs) = true
  | [] => rfl
  | b :: bs => by
    have := conf_u8 bs
    simp only [bv, List.length_cons, List.replicate_succ, List.map_cons, conf, SK.ok, decide_true, Bool.true_and] at this ⊢
    exact this
theorem conf32 {D : List Int} (h : D.length = 32) : conf (skR [(32, .i .u8)]) (bv D).toArray.toList = true := by
  have := conf_u8 D
  rw [h] at this
  simpa [skR] using this
theorem eqc32 (D E : List Int) : eqc (bv D).toArray.toList (bv E).toArray.toList = decide (D = E) := by
  simp only [eqc, bv_inj]
theorem eqA32 {neg : Bool} {D E : List Int} (h1 : D.length = 32) (h2 : E.length = 32) : eqAR neg (skR [(32, .i .u8)]) (.agg (bv D).toArray) (.agg (bv E).toArray) = some (.bool (neg ^^ decide (D = E))) := by
  rw [eqA_a, if_pos ⟨conf32 h1, conf32 h2⟩, eqc32]
theorem eqA_self {D : List Int} (h1 : D.length = 32) : eqAR false (skR [(32, .i .u8)]) (.agg (bv D).toArray) (.agg (bv D).toArray) = some (.bool true) := by
  rw [eqA32 h1 h1, decide_eq_true rfl]; rfl
/-- The digest of the older way. -/
def legG (t : TxV) (i : Int) (bs : List Int) (kind : Int) : List Int :=
  if i < 0 ∨ (t.ins.length : Int) ≤ i ∨ kind % 32 = 3 ∧ (t.outs.length : Int) ≤ i then oneD else dblF (encF { t with ins := if 128 ≤ kind then ((t.ins.mapIdx (legIn i.toNat bs (kind % 32))).drop i.toNat).take 1 else t.ins.mapIdx (legIn i.toNat bs (kind % 32)), outs := outsL t i.toNat (kind % 32) } ++ lowF 4 kind)
theorem legG_len (t : TxV) (i : Int) (bs : List Int) (kind : Int) : (legG t i bs kind).length = 32 := by
  unfold legG; split
  · rfl
  · exact dblF_len _
/-- A transaction of few parts. -/
structure TxV.Lm (t : TxV) : Prop where
  ok : t.Ok
  sz : t.Sz
  ins : t.ins.length ≤ 50
  outs : t.outs.length ≤ 50
  inp : ∀ x ∈ t.ins, x.script.length ≤ 1000
  out : ∀ y ∈ t.outs, y.script.length ≤ 1000
theorem TxV.Lm.sm {t : TxV} (h : t.Lm) : t.Sm := ⟨by have := h.ins; omega, by have := h.outs; omega, fun x hx => ⟨by have := h.inp x hx; omega, (h.sz.inp x hx).wit, (h.sz.inp x hx).item⟩, fun y hy => by have := h.out y hy; omega⟩
theorem encF_len {t : TxV} (hok : t.Ok) (h : t.Few 100 1000) : (encF t).length ≤ 300000 := by
  have a := flatI_len (l := t.ins) (m := 1000) (fun x hx => (hok.ins x hx).len) h.iscr
  have b := flatO_len (l := t.outs) (m := 1000) h.oscr
  have c := h.ins
  have d := h.outs
  have e := (sizeF_len (n := (t.ins.length : Int))).2
  have f := (sizeF_len (n := (t.outs.length : Int))).2
  simp only [encF, List.length_append, lowF_len]
  omega
theorem outsL_mem {t : TxV} {n : Nat} {o : Int} {y : TxO} (h : y ∈ outsL t n o) : y ∈ t.outs ∨ y = ⟨-1, []⟩ := by
  unfold outsL at h
  split at h
  · cases h
  · split at h
    · obtain ⟨k, hk, rfl⟩ := List.mem_mapIdx.1 h
      split
      · exact .inr rfl
      · exact .inl (List.mem_of_mem_take (List.getElem_mem hk))
    · exact .inl h
theorem outsL_len (t : TxV) (n : Nat) (o : Int) : (outsL t n o).length ≤ t.outs.length := by
  unfold outsL
  split
  · exact Nat.zero_le _
  · split
    · rw [blankTo_len, List.length_take]; omega
    · exact Nat.le_refl _
theorem legIn_ok {i k : Nat} {bs : List Int} {o : Int} {x : TxI} (hx : x.Ok) (hb : byt bs) : (legIn i bs o k x).Ok := by
  unfold legIn
  split
  · exact ⟨hx.len, hx.prev, hx.idx, hb, hx.seq, hx.wit⟩
  · refine ⟨hx.len, hx.prev, hx.idx, byt_nil, ?_, hx.wit⟩
    dsimp only
    split
    · omega
    · exact hx.seq
theorem legIn_len {i k : Nat} {bs : List Int} {o : Int} {x : TxI} (hb : bs.length ≤ 1000) : (legIn i bs o k x).script.length ≤ 1000 := by
  unfold legIn
  split
  · exact hb
  · exact Nat.zero_le _
theorem legacy2_ok (w : World) (iv ov : Value) (t : TxV) (hT : TxR w iv ov t) (hL : t.Lm) (i : Int) (x : Value) (bs : List Int) (hx : Rd w x bs) (hb : byt bs) (hbl : bs.length ≤ 1000) (kind : Int) (hk : 0 ≤ kind ∧ kind ≤ 255) (hi64 : -9223372036854775808 ≤ i ∧ i ≤ 9223372036854775807) :
    Calls Try.prog 12 #[.agg (txC t iv ov), .int .i64 i, x, .int .u8 kind] w (Ret fun u w' => u = .agg (bv (legG t i bs kind)).toArray ∧ Ext w w') := by
  refine legacy_ok w iv ov t hT hL.ok hL.sm i x bs hx kind hk hi64 fun n hn hin l hl => ?_
  have hml : ∀ z ∈ l, z ∈ t.ins.mapIdx (legIn n bs (kind % 32)) := fun z hz => by
    rcases hl with rfl | rfl
    · exact hz
    · exact List.mem_of_mem_drop (List.mem_of_mem_take hz)
  have hll : l.length ≤ t.ins.length := by
    rcases hl with rfl | rfl
    · rw [List.length_mapIdx]; exact Nat.le_refl _
    · rw [List.length_take, List.length_drop, List.length_mapIdx]; omega
  have hzo : ∀ z ∈ l, z.Ok ∧ z.script.length ≤ 1000 := fun z hz => by
    obtain ⟨k, hk, rfl⟩ := List.mem_mapIdx.1 (hml z hz)
    exact ⟨legIn_ok (hL.ok.ins _ (List.getElem_mem hk)) hb, legIn_len hbl⟩
  have hyo : ∀ y ∈ outsL t n (kind % 32), y.Ok ∧ y.script.length ≤ 1000 := fun y hy => by
    rcases outsL_mem hy with hy | rfl
    · exact ⟨hL.ok.outs y hy, hL.out y hy⟩
    · exact ⟨⟨by dsimp only; omega, byt_nil⟩, Nat.zero_le _⟩
  have hol := outsL_len t n (kind % 32)
  have hi := hL.ins
  have ho := hL.outs
  have h1 : ({ t with ins := l, outs := outsL t n (kind % 32) } : TxV).Ok := ⟨hL.ok.ver, fun z hz => (hzo z hz).1, fun y hy => (hyo y hy).1, hL.ok.lock⟩
  have h2 : ({ t with ins := l, outs := outsL t n (kind % 32) } : TxV).Few 100 1000 := ⟨by dsimp only; omega, by dsimp only; omega, fun z hz => (hzo z hz).2, fun y hy => (hyo y hy).2⟩
  have h3 := encF_len h1 h2
  exact ⟨h1, h2, by omega⟩
/-- What is one's own is read. -/
theorem ListN.toR {α : Type} {R : Nat → World → Array Value → α → Prop} {R' : World → Array Value → α → Prop} {T size m : Nat} {w : World} {v : Value} {l : List α} (h : ListN R T size m w v l) (hR : ∀ c x, R m w c x → R' w c x) : ListR R' size w v l := by
  obtain ⟨cs, a1, a2, a3⟩ := h
  obtain ⟨q, c, f1, f2⟩ := a2.is
  have a4 := a2.mx
  exact ⟨cs, a1, a2.sz, a2.rd, ⟨q, c, by rw [f1, a1], by omega⟩, by omega, fun i x y => hR _ _ (a3 i x y)⟩
theorem txR_of {m : Nat} {w : World} {iv ov : Value} {t : TxV} (h1 : InsN m w iv t.ins) (h2 : OusN m w ov t.outs) : TxR w iv ov t := ⟨ListN.toR h1 fun _ _ h => h.at, ListN.toR h2 fun _ _ h => h.at⟩

theorem TxT.r {m : Nat} {w : World} {iv ov : Value} {t : TxV} (h : TxT m w iv ov t) : TxR w iv ov t := ⟨ListN.toR h.ins fun _ _ h => by obtain ⟨sv, wv, e, h1, h2⟩ := h; exact ⟨sv, wv, e, h1.1, h2.rowR⟩, ListN.toR h.outs fun _ _ h => by obtain ⟨sv, e, h1⟩ := h; exact ⟨sv, e, h1.1⟩⟩
theorem TxT.ext {m : Nat} {w w' : World} {iv ov : Value} {t : TxV} (h : TxT m w iv ov t) (k : Ext w w') : TxT m w' iv ov t := h.keepT k fun _ h => h.elim
/-! ### What two transactions both sign -/
/-- The inputs that the older way signs. -/
def insL (t : TxV) (n : Nat) (bs : List Int) (kind : Int) : List TxI := if 128 ≤ kind then ((t.ins.mapIdx (legIn n bs (kind % 32))).drop n).take 1 else t.ins.mapIdx (legIn n bs (kind % 32))
theorem legG_at {t : TxV} {n : Nat} (bs : List Int) {kind : Int} (hn : n < t.ins.length) (h3 : kind % 32 = 3 → n < t.outs.length) : legG t n bs kind = dblF (encF { t with ins := insL t n bs kind, outs := outsL t n (kind % 32) } ++ lowF 4 kind) := by
  have h0 : ¬ ((n : Int) < 0 ∨ (t.ins.length : Int) ≤ (n : Int) ∨ kind % 32 = 3 ∧ (t.outs.length : Int) ≤ (n : Int)) := by
    rintro (h | h | ⟨h, h'⟩)
    · omega
    · omega
    · have := h3 h; omega
  unfold legG
  rw [if_neg h0]
  rfl
end Go.Proofs
namespace Go.Proofs
open Go.Vc
set_option maxRecDepth 10000

def wyC (i kind : Int) (sx : Value) (value : Int) : Array Value := #[.int .i64 i, .int .u8 kind, sx, .int .i64 value]
theorem txC_flat {t : TxV} {iv ov : Value} {w : World} (hT : TxR w iv ov t) : flat (txC t iv ov) := by
  have hi1 := ListR.one hT.ins
  have ho1 := ListR.one hT.outs
  intro y hy; simp only [txC, List.mem_cons, List.not_mem_nil, or_false] at hy; rcases hy with rfl | rfl | rfl | rfl <;> first | rfl | assumption
theorem wyC_flat {i kind value : Int} {sx : Value} (h : sx.oneCell' = true) : flat (wyC i kind sx value) := by
  intro y hy; simp only [wyC, List.mem_cons, List.not_mem_nil, or_false] at hy; rcases hy with rfl | rfl | rfl | rfl <;> first | rfl | assumption
/-- The arguments. -/
theorem tx_arg {W : World} {v : Value} (h : ArgLiesB bzT Try.prog W 26 v) : ∃ t iv ov, v = .agg (txC t iv ov) ∧ TxR W iv ov t ∧ t.Ok ∧ t.Sz := by
  obtain ⟨cs, rfl, _⟩ := argAgg ty_tx (.inl ⟨_, Try.underlying26⟩) h.1
  obtain ⟨t, iv, ov, e, h1, h2, h3⟩ := tx_of (h.2 6 txT bz_tx ty_tx)
  exact ⟨t, iv, ov, congrArg Value.agg e, h1, h2, h3⟩
def wayT : Tys := .cons (.int .i64) (.cons (.int .u8) (.cons (.sl u8T) (.cons (.int .i64) .nil)))
theorem way_arg {W : World} {v : Value} (h : ArgLiesB bzT Try.prog W 29 v) : ∃ i kind sx value bs, v = .agg (wyC i kind sx value) ∧ (-9223372036854775808 ≤ i ∧ i ≤ 9223372036854775807) ∧ (0 ≤ kind ∧ kind ≤ 255) ∧ Rd W sx bs ∧ byt bs ∧ (-9223372036854775808 ≤ value ∧ value ≤ 9223372036854775807) := by
  obtain ⟨cs, rfl, hl⟩ := argAgg (m := 6) (a := wayT) (by kernel_rfl) (.inl ⟨_, Try.underlying29⟩) h.1
  unfold wayT at hl
  cases e : cs.toList with
  | nil => rw [e] at hl; simp only [LiesAll] at hl
  | cons v1 b =>
  rw [e] at hl
  simp only [LiesAll] at hl
  obtain ⟨k1, h2⟩ := hl
  cases b with
  | nil => simp only [] at h2
  | cons v2 b =>
  simp only [] at h2
  obtain ⟨k2, h2⟩ := h2
  cases b with
  | nil => simp only [] at h2
  | cons v3 b =>
  simp only [] at h2
  obtain ⟨k3, h2⟩ := h2
  cases b with
  | nil => simp only [] at h2
  | cons v4 b =>
  simp only [] at h2
  obtain ⟨k4, rfl⟩ := h2
  simp only [Lies] at k1 k2 k4
  obtain ⟨i, rfl, hi⟩ := k1
  obtain ⟨kind, rfl, hk⟩ := k2
  obtain ⟨value, rfl, hv⟩ := k4
  obtain ⟨bs, hr, hb⟩ := bytes_of k3
  have a1 := wf_int hi
  have a2 := wf_int hk
  have a3 := wf_int hv
  have e1 : IntKind.i64.min = -9223372036854775808 := by decide
  have e2 : IntKind.i64.max = 9223372036854775807 := by decide
  have e3 : IntKind.u8.min = 0 := by decide
  have e4 : IntKind.u8.max = 255 := by decide
  refine ⟨i, kind, v3, value, bs, ?_, by omega, by omega, hr, hb, by omega⟩
  congr 1
  apply Array.ext'
  rw [e]; rfl
theorem put_tx {wj : World} {t : TxV} {iv ov : Value} :
    Ext wj ((wj.alloc (.cells (zc [(1, .int .i32 0), (2, .slice none 0 0), (1, .int .u32 0)]) 26)).putN wj.heap.size 0 (txC t iv ov)) ∧ ((wj.alloc (.cells (zc [(1, .int .i32 0), (2, .slice none 0 0), (1, .int .u32 0)]) 26)).putN wj.heap.size 0 (txC t iv ov)).heap[wj.heap.size]? = some (.cells (txC t iv ov) 26 (0, 0)) :=
  ⟨((Keep.refl _ wj).alloc _).putN _ (by intro hh; exfalso; omega), by rw [heap_putN_eq (heap_new _ _ _ rfl), splice_all (by rw [txC_sz]; rfl)]⟩
end Go.Proofs
namespace Go.Proofs
open Go.Vc
set_option maxRecDepth 10000

theorem short12_ok (w : World) (v : Value) (bs : List Int) (h : Rd w v bs) :
    Calls Try.prog 9 #[v] w (Ret fun u w' => (∀ wz, Rd wz v bs → Rd wz u (bs.take 300)) ∧ w' = w) := by
  refine calls_of_cfg c9_ok (Nat.le_of_ble_eq_true rfl) ?_
  simp only [argE_nil, argE_cons, Nat.zero_add]
  have hlx := h.len
  (refine W_at c9_ok ?_; refine ⟨_, rfl, ?_⟩; simp (disch := first | omega | assumption | rfl | (simp only [vcS] <;> omega) | fail) only [↓vcA, vcB, ↓reduceIte, reduceCtorEq])
  (refine W_at c9_ok ?_; refine ⟨_, rfl, ?_⟩; simp (disch := first | omega | assumption | rfl | (simp only [vcS] <;> omega) | fail) only [↓vcA, vcB, ↓reduceIte, reduceCtorEq, Option.bind_some, hlx])
  by_cases h2 : (300 : Int) < (bs.length : Nat)
  · obtain ⟨⟨q, c, rfl, hc⟩, hm, _⟩ := id h
    have k1 : (0 : Int) ≤ 300 ∧ (300 : Int) ≤ (c : Nat) := by omega
    have k2 : (300 : Int) ≤ (c : Nat) := by omega
    have hcut : ∀ wz, Rd wz (.slice q bs.length c) bs → Rd wz (.slice q 300 c) (bs.take 300) := fun wz hz => by
      have hcut := hz.cut (l := 0) (j := 300) (Nat.zero_le _) (by omega)
      rw [advA_0, Nat.sub_zero, Nat.sub_zero, List.drop_zero] at hcut
      exact hcut
    (refine W_at c9_ok ?_; refine ⟨_, rfl, ?_⟩; simp (disch := first | omega | assumption | rfl | (simp only [vcS] <;> omega) | fail) only [↓vcA, vcB, ↓reduceIte, reduceCtorEq, h2])
    (refine W_at c9_ok ?_; refine ⟨_, rfl, ?_⟩; simp (disch := first | omega | assumption | rfl | (simp only [vcS] <;> omega) | fail) only [↓vcA, vcB, ↓reduceIte, Int.reduceToNat, Option.bind_some, Option.map_some, k1, Nat.sub_zero])
    (refine W_at c9_ok ?_; refine ⟨_, rfl, ?_⟩; simp (disch := first | omega | assumption | rfl | (simp only [vcS] <;> omega) | fail) only [↓vcA, vcB, ↓reduceIte, Option.bind_some, Option.map_some, Ret_returned])
    exact hcut
  · (refine W_at c9_ok ?_; refine ⟨_, rfl, ?_⟩; simp (disch := first | omega | assumption | rfl | (simp only [vcS] <;> omega) | fail) only [↓vcA, vcB, ↓reduceIte, reduceCtorEq, h2])
    (refine W_at c9_ok ?_; refine ⟨_, rfl, ?_⟩; simp (disch := first | omega | assumption | rfl | (simp only [vcS] <;> omega) | fail) only [↓vcA, vcB, ↓reduceIte])
    (refine W_at c9_ok ?_; refine ⟨_, rfl, ?_⟩; simp (disch := first | omega | assumption | rfl | (simp only [vcS] <;> omega) | fail) only [↓vcA, vcB, ↓reduceIte, Option.bind_some, Option.map_some, Ret_returned])
    intro wz hz
    rw [List.take_of_length_le (by omega)]
    exact hz
theorem IP.base {m m' : Nat} {w : World} {c : Array Value} {x : TxI} (h : IP m w c x) (hm : m' ≤ m) : IP m' w c x := by
  obtain ⟨sv, wv, h1, h2, h3⟩ := h
  refine ⟨sv, wv, h1, h2, ?_⟩
  rcases h3 with h3 | ⟨g, o, cap, cs, e, hg, r⟩
  · exact .inl h3
  · exact .inr ⟨g, o, cap, cs, e, Nat.le_trans hm hg, r⟩
set_option maxHeartbeats 1600000 in
theorem few12_ok (w : World) (iv ov : Value) (t : TxV) (hT : TxR w iv ov t) (hok : t.Ok) (hsz : t.Sz) :
    Calls Try.prog 8 #[.agg (txC t iv ov)] w (Ret fun u w' => ∃ t' iv' ov', u = .agg (txC t' iv' ov') ∧ TxT w.heap.size w' iv' ov' t' ∧ t'.Ok ∧ t'.Sz ∧ t'.Lim 5 300 ∧ Ext w w') := by
  refine calls_of_cfg c8_ok (Nat.le_of_ble_eq_true rfl) ?_
  simp only [argE_nil, argE_cons, Nat.zero_add]
  have hfx := txC_flat hT
  have hcx : (Value.agg (txC t iv ov)).cells = txC t iv ov := rfl
  have hzx := txC_sz t iv ov
  (refine W_at c8_ok ?_; refine ⟨_, rfl, ?_⟩; simp (disch := first | omega | assumption | rfl | (simp only [vcS] <;> omega) | fail) only [↓ptV_l, ↓vcA, vcB, ↓reduceIte, Nat.reduceEqDiff, vcM, hcx])
  have hE1 : Ext w (w.alloc (.cells (txC t iv ov) 26)) := (Keep.refl _ w).alloc _
  have c2 : (w.alloc (.cells (txC t iv ov) 26)).heap[w.heap.size]? = some (.cells (txC t iv ov) 26 (0, 0)) := heap_new _ _ _ rfl
  have s1 : (w.alloc (.cells (txC t iv ov) 26)).heap.size = w.heap.size + 1 := size_alloc _ _
  generalize World.alloc w _ = w1 at hE1 c2 s1 ⊢
  have hE2 : Ext w1 (w1.alloc (.cells (zc [(1, .int .i32 0), (2, .slice none 0 0), (1, .int .u32 0)]) 26)) := (Keep.refl _ w1).alloc _
  have c3 : (w1.alloc (.cells (zc [(1, .int .i32 0), (2, .slice none 0 0), (1, .int .u32 0)]) 26)).heap[w.heap.size + 1]? = some (.cells (zc [(1, .int .i32 0), (2, .slice none 0 0), (1, .int .u32 0)]) 26 (0, 0)) := heap_new _ _ _ s1.symm
  generalize World.alloc w1 _ = w2 at hE2 c3 ⊢
  have c22 := hE2.at c2 (fun h => h)
  have hE02 := hE1.ext hE2
  have hsz02 := hE02.size
  have r4 : rdO (some (.cells (txC t iv ov) 26 (0, 0))) 0 4 = some (txC t iv ov) := rdO_all _ _ _ _ rfl
  generalize hp3 : w.heap.size + 1 = p3 at c3 ⊢
  (refine W_at c8_ok ?_; refine ⟨_, rfl, ?_⟩; simp (disch := first | omega | assumption | rfl | (simp only [vcS] <;> omega) | fail) only [↓ptV_l, ↓vcA, vcB, ↓reduceIte, Nat.reduceEqDiff, Option.bind_some, Option.map_some, vcM, c22, r4])
  refine callV_ret (few_ok w2 iv ov t 5 300 (hT.ext hE02) hok hsz (by omega) (by omega)) ?_
  rintro _ w4 ⟨t', iv', ov', rfl, hT4, hok4, hsz4, hL4, hE4⟩
  have c34 := hE4.at c3 (fun h => h)
  have hzt := txC_sz t' iv' ov'
  have z4 : (zc [(1, Value.int .i32 0), (2, .slice none 0 0), (1, .int .u32 0)]).size = 4 := rfl
  have o4 : okO (some (.cells (zc [(1, .int .i32 0), (2, .slice none 0 0), (1, .int .u32 0)]) 26 (0, 0))) 0 4 = True := by simp only [okO, z4]; simp
  first | (simp (disch := first | omega | assumption | rfl | (simp only [vcS] <;> omega) | fail) only [↓vcA, vcB, vcM, c34, hzt, o4]) | skip
  refine ⟨txC_flat hT4.r, ?_⟩
  have hk5 : Keep (fun g => g = p3) w4 (w4.putN p3 0 (txC t' iv' ov')) := (Keep.refl _ w4).putN _ fun _ => rfl
  have hT5 := hT4.keepT hk5 fun g hg => by subst hg; exact ⟨_, _, c34, by decide, by decide, by decide, by decide⟩
  have d3 : (w4.putN p3 0 (txC t' iv' ov')).heap[p3]? = some (.cells (txC t' iv' ov') 26 (0, 0)) := by rw [heap_putN_eq c34, splice_all (by rw [z4, hzt])]
  have r5 : rdO (some (.cells (txC t' iv' ov') 26 (0, 0))) 0 4 = some (txC t' iv' ov') := rdO_all _ _ _ _ rfl
  have hE5 : Ext w (w4.putN p3 0 (txC t' iv' ov')) := (hE02.ext hE4).trans hk5 fun g hg e => by omega
  (refine W_at c8_ok ?_; refine ⟨_, rfl, ?_⟩; simp (disch := first | omega | assumption | rfl | (simp only [vcS] <;> omega) | fail) only [↓vcA, vcB, ↓reduceIte, Option.bind_some, Option.map_some, vcM, d3, r5, Ret_returned])
  exact ⟨t', iv', ov', rfl, ⟨ListN.imp hT5.ins hsz02 fun c x _ h => IP.base h hsz02, ListN.imp hT5.outs hsz02 fun c y _ h => h⟩, hok4, hsz4, hL4, hE5⟩
def knownF (k : Int) : Bool := decide (1 ≤ k % 128 ∧ k % 128 ≤ 3)
theorem andNot128 {x : Int} (h : 0 ≤ x ∧ x ≤ 255) : IntKind.u8.wrap (((BitVec.ofInt IntKind.u8.bits x &&& ~~~BitVec.ofInt IntKind.u8.bits 128).toNat : Nat) : Int) = x % 128 := by
  obtain ⟨n, rfl⟩ := Int.eq_ofNat_of_zero_le h.1
  have hd : ∀ n : Fin 256, IntKind.u8.wrap (((BitVec.ofInt IntKind.u8.bits ((n.val : Nat) : Int) &&& ~~~BitVec.ofInt IntKind.u8.bits 128).toNat : Nat) : Int) = ((n.val : Nat) : Int) % 128 := by decide +kernel
  exact hd ⟨n, by omega⟩
theorem known_ok (w : World) (k : Int) (hk : 0 ≤ k ∧ k ≤ 255) : Calls Try.prog 16 #[.int .u8 k] w (Ret fun u w' => u = .bool (knownF k) ∧ w' = w) := by
  refine calls_of_cfg c16_ok (Nat.le_of_ble_eq_true rfl) ?_
  simp only [argE_nil, argE_cons, Nat.zero_add]
  have a1 := andNot128 hk
  (refine W_at c16_ok ?_; refine ⟨_, rfl, ?_⟩; simp (disch := first | omega | assumption | rfl | (simp only [vcS] <;> omega) | fail) only [↓vcA, vcB, ↓reduceIte, reduceCtorEq])
  (refine W_at c16_ok ?_; refine ⟨_, rfl, ?_⟩; simp (disch := first | omega | assumption | rfl | (simp only [vcS] <;> omega) | fail) only [↓vcA, vcB, ↓reduceIte, Option.bind_some, a1])
  unfold knownF
  by_cases h1 : 1 ≤ k % 128
  · by_cases h2 : k % 128 ≤ 3
    · (refine W_at c16_ok ?_; refine ⟨_, rfl, ?_⟩; simp (disch := first | omega | assumption | rfl | (simp only [vcS] <;> omega) | fail) only [↓vcA, vcB, ↓reduceIte, Nat.reduceEqDiff, Option.bind_some, h1, h2])
      (refine W_at c16_ok ?_; refine ⟨_, rfl, ?_⟩; simp (disch := first | omega | assumption | rfl | (simp only [vcS] <;> omega) | fail) only [↓vcA, vcB, ↓reduceIte, Option.bind_some, Option.map_some, Ret_returned])
      all_goals simp [h1, h2]
    · (refine W_at c16_ok ?_; refine ⟨_, rfl, ?_⟩; simp (disch := first | omega | assumption | rfl | (simp only [vcS] <;> omega) | fail) only [↓vcA, vcB, ↓reduceIte, Nat.reduceEqDiff, Option.bind_some, h1, h2])
      (refine W_at c16_ok ?_; refine ⟨_, rfl, ?_⟩; simp (disch := first | omega | assumption | rfl | (simp only [vcS] <;> omega) | fail) only [↓vcA, vcB, ↓reduceIte, Option.bind_some, Option.map_some, Ret_returned])
      all_goals simp [h1, h2]
  · (refine W_at c16_ok ?_; refine ⟨_, rfl, ?_⟩; simp (disch := first | omega | assumption | rfl | (simp only [vcS] <;> omega) | fail) only [↓vcA, vcB, ↓reduceIte, Nat.reduceEqDiff, Option.bind_some, h1])
    (refine W_at c16_ok ?_; refine ⟨_, rfl, ?_⟩; simp (disch := first | omega | assumption | rfl | (simp only [vcS] <;> omega) | fail) only [↓vcA, vcB, ↓reduceIte, Option.bind_some, Option.map_some, Ret_returned])
    all_goals simp []
theorem rknown_ok (w : World) (k : Int) (hk : 0 ≤ k ∧ k ≤ 255) : Calls Try.prog 17 #[.int .u8 k] w (Ret fun u w' => u = .bool (knownF k) ∧ w' = w) := by
  refine calls_of_cfg c17_ok (Nat.le_of_ble_eq_true rfl) ?_
  simp only [argE_nil, argE_cons, Nat.zero_add]
  have a1 : k.tmod 128 = k % 128 := Int.tmod_eq_emod_of_nonneg hk.1
  (refine W_at c17_ok ?_; refine ⟨_, rfl, ?_⟩; simp (disch := first | omega | assumption | rfl | (simp only [vcS] <;> omega) | fail) only [↓vcA, vcB, ↓reduceIte, reduceCtorEq])
  unfold knownF
  by_cases h1 : 1 ≤ k % 128
  · by_cases h2 : k % 128 ≤ 3
    · (refine W_at c17_ok ?_; refine ⟨_, rfl, ?_⟩; simp (disch := first | omega | assumption | rfl | (simp only [vcS] <;> omega) | fail) only [↓vcA, vcB, ↓reduceIte, Nat.reduceEqDiff, Int.reduceEq, reduceCtorEq, Option.bind_some, a1, h1, h2])
      (refine W_at c17_ok ?_; refine ⟨_, rfl, ?_⟩; simp (disch := first | omega | assumption | rfl | (simp only [vcS] <;> omega) | fail) only [↓vcA, vcB, ↓reduceIte, Option.bind_some, Option.map_some, Ret_returned])
      all_goals simp [h1, h2]
    · (refine W_at c17_ok ?_; refine ⟨_, rfl, ?_⟩; simp (disch := first | omega | assumption | rfl | (simp only [vcS] <;> omega) | fail) only [↓vcA, vcB, ↓reduceIte, Nat.reduceEqDiff, Int.reduceEq, reduceCtorEq, Option.bind_some, a1, h1, h2])
      (refine W_at c17_ok ?_; refine ⟨_, rfl, ?_⟩; simp (disch := first | omega | assumption | rfl | (simp only [vcS] <;> omega) | fail) only [↓vcA, vcB, ↓reduceIte, Option.bind_some, Option.map_some, Ret_returned])
      all_goals simp [h1, h2]
  · (refine W_at c17_ok ?_; refine ⟨_, rfl, ?_⟩; simp (disch := first | omega | assumption | rfl | (simp only [vcS] <;> omega) | fail) only [↓vcA, vcB, ↓reduceIte, Nat.reduceEqDiff, Int.reduceEq, Option.bind_some, a1, h1])
    (refine W_at c17_ok ?_; refine ⟨_, rfl, ?_⟩; simp (disch := first | omega | assumption | rfl | (simp only [vcS] <;> omega) | fail) only [↓vcA, vcB, ↓reduceIte, Option.bind_some, Option.map_some, Ret_returned])
    all_goals simp []
/-! ### The fixed fact -/
def txA : TxV := ⟨0, [⟨List.replicate 32 0, 0, [], 0, []⟩], [], 0⟩
theorem txA_lm : txA.Lm := by
  have hI : ∀ x ∈ txA.ins, x = ⟨List.replicate 32 0, 0, [], 0, []⟩ := fun x hx => by simpa [txA] using hx
  refine ⟨⟨by decide, fun x hx => ?_, fun y hy => (by cases hy), by decide⟩, ⟨by decide, by decide, fun x hx => ?_, fun y hy => (by cases hy)⟩, by decide, by decide, fun x hx => ?_, fun y hy => (by cases hy)⟩
  · rw [hI x hx]; exact ⟨rfl, fun b hb => (by have := List.eq_of_mem_replicate hb; omega), by decide, byt_nil, by decide, fun b hb => (by cases hb)⟩
  · rw [hI x hx]; exact ⟨by decide, by decide, fun p hp => (by cases hp)⟩
  · rw [hI x hx]; decide
theorem legA_3 : legG txA 0 [] 3 = oneD := by
  unfold legG
  rw [if_pos (.inr (.inr ⟨by decide, by decide⟩))]
theorem legA_1 : legG txA 0 [] 1 ≠ oneD := by
  decide +kernel
end Go.Proofs
namespace Go.Proofs
open Go.Vc
set_option maxRecDepth 10000

theorem encF_congr {t u : TxV} (hv : u.ver = t.ver) (hl : u.lock = t.lock) (hI : u.ins.map encI = t.ins.map encI) (hO : u.outs.map encO = t.outs.map encO) : encF u = encF t := by
  have h1 : u.ins.length = t.ins.length := by simpa using congrArg List.length hI
  have h2 : u.outs.length = t.outs.length := by simpa using congrArg List.length hO
  unfold encF
  rw [hv, hl, h1, h2, List.flatMap_def, List.flatMap_def, hI, hO, ← List.flatMap_def, ← List.flatMap_def]
section
variable {t u : TxV} {n : Nat} {kind : Int}
theorem take1_drop {α : Type} {l : List α} {n : Nat} (h : n < l.length) : (l.drop n).take 1 = [l[n]] := by
  rw [List.drop_eq_getElem_cons h]; rfl
end
end Go.Proofs
namespace Go.Proofs
open Go.Vc
set_option maxRecDepth 10000

theorem RowN.gp {m : Nat} {w : World} {v : Value} {ps : List (List Int)} (h : RowN m w v ps) (hb : ∀ p ∈ ps, byt p ∧ p.length ≤ 140737488355328) : GP m w v ps := by
  obtain ⟨vs, ⟨hs, ⟨rfl, e⟩ | ⟨g, o, cap, cur, rfl, hbs, hg, hn, hcm, hle, htake⟩⟩, h2, h3⟩ := h
  · have := congrArg List.length e
    rw [List.length_map, List.length_nil] at this
    exact .inl ⟨rfl, List.eq_nil_of_length_eq_zero (by omega)⟩
  · rw [List.length_map] at hn htake ⊢
    rw [flat1_list, Nat.mul_one] at htake
    rw [Nat.mul_one] at hle
    rw [h2] at hn htake ⊢
    refine .inr ⟨g, o, cap, cur, rfl, hbs, hn, by omega, hg, by omega, fun j hj => ?_⟩
    have hj2 : j < vs.length := by omega
    refine ⟨vs[j], ?_, (h3 j hj2 hj).b5 (hb _ (List.getElem_mem hj)).1 (hb _ (List.getElem_mem hj)).2⟩
    have := congrArg (fun l : List Value => l[j]?) htake
    rw [List.getElem?_take_of_lt hj, List.getElem?_drop, List.getElem?_eq_getElem hj2] at this
    rw [← this, Array.getElem?_toList]
end Go.Proofs
namespace Go.Proofs
open Go.Vc
set_option maxRecDepth 10000

theorem New.lt {w0 w : World} {a : Value} {xs : List Int} (h : New w0 w a xs) {g : Nat} (hg : blk a g) : g < w.heap.size := by
  obtain ⟨c, hc⟩ := row_type h.own hg
  exact lt_of_heap hc
theorem lowF_kind {k : Int} (hk : 0 ≤ k ∧ k ≤ 255) : lowF 4 k = [k, 0, 0, 0] := by
  simp only [lowF]
  have a1 : k % 256 = k := by omega
  have a2 : k / 256 = 0 := by omega
  rw [a1, a2]; rfl
theorem outs12_ok (w : World) (k : Int) (hk : 0 ≤ k ∧ k ≤ 255) : Calls Try.prog 31 #[.int .u8 k] w (Ret fun u w' => u = .int .i64 (k % 32) ∧ w' = w) := by
  refine calls_of_cfg c31_ok (Nat.le_of_ble_eq_true rfl) ?_
  simp only [argE_nil, argE_cons, Nat.zero_add]
  have a1 : k.tmod 32 = k % 32 := Int.tmod_eq_emod_of_nonneg hk.1
  have a2 : IntKind.i64.wrap (k % 32) = k % 32 := wrap_i64 (by omega) (by omega)
  (refine W_at c31_ok ?_; refine ⟨_, rfl, ?_⟩; simp (disch := first | omega | assumption | rfl | (simp only [vcS] <;> omega) | fail) only [↓vcA, vcB, ↓reduceIte, reduceCtorEq])
  (refine W_at c31_ok ?_; refine ⟨_, rfl, ?_⟩; simp (disch := first | omega | assumption | rfl | (simp only [vcS] <;> omega) | fail) only [↓vcA, vcB, ↓reduceIte, Int.reduceEq, Option.bind_some, a1, a2])
  (refine W_at c31_ok ?_; refine ⟨_, rfl, ?_⟩; simp (disch := first | omega | assumption | rfl | (simp only [vcS] <;> omega) | fail) only [↓vcA, vcB, ↓reduceIte, Option.bind_some, Option.map_some, Ret_returned])
section
variable {wB wj wk : World} {p17 p18 p19 : Nat} {P Q M : List Int}
theorem put32 {g : Nat} {P P' : List Int} {T : TypeId} (h : wj.heap[g]? = some (.cells (bv P).toArray T (0, 0))) (hp : P.length = 32) (hp' : P'.length = 32) : (wj.putN g 0 (bv P').toArray).heap[g]? = some (.cells (bv P').toArray T (0, 0)) := by
  rw [heap_putN_eq h, splice_all (by rw [bva_size, bva_size, hp, hp'])]
theorem ok32 {P : List Int} {T : TypeId} (hp : P.length = 32) : okO (some (.cells (bv P).toArray T (0, 0))) 0 32 = True := by
  have : (bv P).toArray.size = 32 := by rw [bva_size, hp]
  simp only [okO, this]; simp
end
end Go.Proofs
namespace Go.Proofs
open Go.Vc
set_option maxRecDepth 10000

theorem New.here {w : World} : New w (w.alloc (.cells [].toArray 5)) (.slice (some ⟨w.heap.size, 0, none⟩) 0 0) [] := New.lit (bs := []) (by simp [maxLen])
theorem lowF_get : ∀ (n : Nat) (x : Nat) (i : Nat), i < n → (lowF n (x : Nat))[i]? = some ((x / 256 ^ i % 256 : Nat) : Int)
  | 0, _, _, h => by omega
  | n + 1, x, 0, _ => by simp [lowF]
  | n + 1, x, i + 1, h => by
    have e : ((x : Nat) : Int) / 256 = ((x / 256 : Nat) : Int) := by omega
    rw [lowF, List.getElem?_cons_succ, e, lowF_get n (x / 256) i (by omega), Nat.div_div_eq_div_mul, Nat.pow_succ, Nat.mul_comm (256 ^ i)]
theorem low_be8 (x i : Nat) (h : i < 8) : (lowF 8 (x : Nat))[7 - i]? = (be8 x)[i]? := by
  rw [lowF_get 8 x (7 - i) (by omega), be8_get x i h]
theorem fill_z (n j : Nat) (hj : j ≤ 63 - (n + 8) % 64) : ((n + 1 + j) % 64 = 56) = (j = 63 - (n + 8) % 64) := by
  apply propext
  omega
set_option maxHeartbeats 1600000 in
theorem fill_ok (w : World) (x : Value) (bs : List Int) (hx : Rd w x bs) (hl : bs.length ≤ 100000000) :
    Calls Try.prog 71 #[x, .int .i64 64, .int .i64 8, .bool false] w (Ret fun u w' => New w w' u (allF bs)) := by
  refine calls_of_cfg c71_ok (Nat.le_of_ble_eq_true rfl) ?_
  simp only [argE_nil, argE_cons, Nat.reduceAdd, Nat.zero_add]
  have hlen := hx.len
  (refine W_at c71_ok ?_; refine ⟨_, rfl, ?_⟩; simp (disch := first | omega | assumption | rfl | (simp only [vcS] <;> omega) | fail) only [↓vcA, vcB, ↓reduceIte, Nat.reduceEqDiff, reduceCtorEq])
  (refine W_at c71_ok ?_; refine ⟨_, rfl, ?_⟩; simp (disch := first | omega | assumption | rfl | (simp only [vcS] <;> omega) | fail) only [↓ptV_l, ↓vcA, vcB, ↓reduceIte, Nat.reduceEqDiff, reduceCtorEq, Option.bind_some, List.length_nil, vcM])
  refine appN New.here (hx.ext New.here.ext) (by simp; omega) fun v1 w1 h1 _ _ => ?_
  rw [List.nil_append] at h1
  first | (simp (disch := first | omega | assumption | rfl | (simp only [vcS] <;> omega) | fail) only [↓ptV_l, ↓vcA, vcB, ↓vcD, vcE, ↓reduceIte, Nat.reduceEqDiff, Nat.reduceAdd, Nat.reduceMul, Nat.reduceLeDiff, Int.reduceLE, Int.reduceLT, Int.reduceEq, Int.reduceToNat, Int.reduceAdd, Int.reduceSub, Int.reduceMul, Int.reduceNeg, reduceCtorEq, Option.bind_some, Option.map_some, List.length_cons, List.length_nil, vcM, List.getElem?_toArray, List.getElem?_cons_zero, List.getElem?_cons_succ]) | skip
  (refine W_at c71_ok ?_; refine ⟨_, rfl, ?_⟩; simp (disch := first | omega | assumption | rfl | (simp only [vcS] <;> omega) | fail) only [↓ptV_l, ↓vcA, vcB, ↓reduceIte, Nat.reduceEqDiff, reduceCtorEq, Option.bind_some, Option.map_some, List.length_cons, List.length_nil, vcM])
  refine appNL (news := [128]) h1 (by simp; omega) fun v2 w2 h2 _ _ => ?_
  first | (simp (disch := first | omega | assumption | rfl | (simp only [vcS] <;> omega) | fail) only [↓ptV_l, ↓vcA, vcB, ↓vcD, vcE, ↓reduceIte, Nat.reduceEqDiff, Nat.reduceAdd, Nat.reduceMul, Nat.reduceLeDiff, Int.reduceLE, Int.reduceLT, Int.reduceEq, Int.reduceToNat, Int.reduceAdd, Int.reduceSub, Int.reduceMul, Int.reduceNeg, reduceCtorEq, Option.bind_some, Option.map_some, List.length_cons, List.length_nil, vcM, List.getElem?_toArray, List.getElem?_cons_zero, List.getElem?_cons_succ]) | skip
  have hxe : ∀ {w'}, Ext w w' → Rd w' x bs := fun k => hx.ext k
  have L1 : ∀ (k j : Nat) (wj : World) (vj : Value), j + k = 63 - (bs.length + 8) % 64 → New w wj vj (bs ++ 128 :: List.replicate j 0) →
      W Try.prog (Ret fun u w' => New w w' u (allF bs)) 71 24 [(0, x), (1, .int .i64 64), (2, .int .i64 8), (3, .bool false), (9, vj)] wj := by
    intro k
    induction k with
    | zero =>
      intro j wj vj hj hN
      have hll := hN.own.rd.len
      have hL : (bs ++ 128 :: List.replicate j (0 : Int)).length = bs.length + 1 + j := by simp; omega
      rw [hL] at hll
      have hm : Int.tmod ((bs.length + 1 + j : Nat) : Int) 64 = (((bs.length + 1 + j) % 64 : Nat) : Int) := by rw [Int.tmod_eq_emod_of_nonneg (by omega)]; omega
      have hz := fill_z bs.length j (by omega)
      have he : (((bs.length + 1 + j) % 64 : Nat) : Int) = 56 := by
        have : (bs.length + 1 + j) % 64 = 56 := by rw [hz]; omega
        omega
      have u1 : IntKind.i64.wrap 56 = 56 := by decide
      have hw1 : IntKind.u64.wrap ((bs.length : Nat) : Int) = (bs.length : Nat) := by rw [wrap_u64]; omega
      have hw2 : IntKind.u64.wrap (((bs.length : Nat) : Int) * 8) = ((8 * bs.length : Nat) : Int) := by rw [wrap_u64]; omega
      (refine W_at c71_ok ?_; refine ⟨_, rfl, ?_⟩; simp (disch := first | omega | assumption | rfl | (simp only [vcS] <;> omega) | fail) only [↓vcA, vcB, ↓reduceIte, Nat.reduceEqDiff, Int.reduceEq, Int.reduceSub, reduceCtorEq, Option.bind_some, hll, hm, he, u1])
      (refine W_at c71_ok ?_; refine ⟨_, rfl, ?_⟩; simp (disch := first | omega | assumption | rfl | (simp only [vcS] <;> omega) | fail) only [↓vcA, vcB, ↓reduceIte, Nat.reduceEqDiff, reduceCtorEq])
      (refine W_at c71_ok ?_; refine ⟨_, rfl, ?_⟩; simp (disch := first | omega | assumption | rfl | (simp only [vcS] <;> omega) | fail) only [↓vcA, vcB, ↓reduceIte, Nat.reduceEqDiff, reduceCtorEq, Option.bind_some, hlen, hw1, hw2])
      (refine W_at c71_ok ?_; refine ⟨_, rfl, ?_⟩; simp (disch := first | omega | assumption | rfl | (simp only [vcS] <;> omega) | fail) only [↓vcA, vcB, ↓reduceIte, Nat.reduceEqDiff])
      (refine W_at c71_ok ?_; refine ⟨_, rfl, ?_⟩; simp (disch := first | omega | assumption | rfl | (simp only [vcS] <;> omega) | fail) only [↓vcA, vcB, ↓reduceIte, Nat.reduceEqDiff])
      have hj2 : j = 63 - (bs.length + 8) % 64 := by omega
      subst hj2
      -- the length's bytes
      have L2 : ∀ (k i : Nat) (wi : World) (li : Value) (y : Nat) (l0 : List Int), i + k = 8 → New w wi vj (bs ++ 128 :: List.replicate (63 - (bs.length + 8) % 64) 0) → New w wi li l0 → l0.length = i → l0 ++ lowF k (y : Nat) = lowF 8 ((8 * bs.length : Nat) : Int) → (y : Int) < 18446744073709551616 →
          (∀ g, blk vj g → ¬ blk li g) →
          W Try.prog (Ret fun u w' => New w w' u (allF bs)) 71 17 [(2, .int .i64 8), (3, .bool false), (9, vj), (10, .int .u64 (y : Nat)), (11, li), (12, .int .i64 (i : Nat))] wi := by
        intro k
        induction k with
        | zero =>
          intro i wi li y l0 hi hNv hNl hll0 hl0 hy hd
          have hno : ¬ ((i : Nat) : Int) < 8 := by omega
          rw [lowF, List.append_nil] at hl0
          subst hl0
          (refine W_at c71_ok ?_; refine ⟨_, rfl, ?_⟩; simp (disch := first | omega | assumption | rfl | (simp only [vcS] <;> omega) | fail) only [↓vcA, vcB, ↓reduceIte, Nat.reduceEqDiff, Option.bind_some, hno])
          (refine W_at c71_ok ?_; refine ⟨_, rfl, ?_⟩; simp (disch := first | omega | assumption | rfl | (simp only [vcS] <;> omega) | fail) only [↓vcA, vcB, ↓reduceIte, Nat.reduceEqDiff])
          (refine W_at c71_ok ?_; refine ⟨_, rfl, ?_⟩; simp (disch := first | omega | assumption | rfl | (simp only [vcS] <;> omega) | fail) only [↓vcA, vcB, ↓reduceIte, Nat.reduceEqDiff])
          have hbe : (lowF 8 ((8 * bs.length : Nat) : Int)).length = 8 := lowF_len _ _
          have L3 : ∀ (k i : Nat) (wz : World) (vz : Value), i + k = 8 → New w wz vz (bs ++ 128 :: (List.replicate (63 - (bs.length + 8) % 64) 0 ++ (be8 (8 * bs.length)).take i)) → Own1 wz li (lowF 8 ((8 * bs.length : Nat) : Int)) → (∀ g, blk vz g → ¬ blk li g) →
              W Try.prog (Ret fun u w' => New w w' u (allF bs)) 71 10 [(2, .int .i64 8), (3, .bool false), (9, vz), (11, li), (13, .int .i64 (i : Nat))] wz := by
            intro k
            induction k with
            | zero =>
              intro i wz vz hi hNz hOl hdz
              obtain rfl : i = 8 := by omega
              rw [List.take_of_length_le (by rw [be8_len]; exact Nat.le_refl _)] at hNz
              (refine W_at c71_ok ?_; refine ⟨_, rfl, ?_⟩; simp (disch := first | omega | assumption | rfl | (simp only [vcS] <;> omega) | fail) only [↓vcA, vcB, ↓reduceIte, Nat.reduceEqDiff, Int.reduceLT, Option.bind_some, vcM])
              (refine W_at c71_ok ?_; refine ⟨_, rfl, ?_⟩; simp (disch := first | omega | assumption | rfl | (simp only [vcS] <;> omega) | fail) only [↓vcA, vcB, ↓reduceIte, Nat.reduceEqDiff])
              (refine W_at c71_ok ?_; refine ⟨_, rfl, ?_⟩; simp (disch := first | omega | assumption | rfl | (simp only [vcS] <;> omega) | fail) only [↓vcA, vcB, ↓reduceIte, Nat.reduceEqDiff])
              (refine W_at c71_ok ?_; refine ⟨_, rfl, ?_⟩; simp (disch := first | omega | assumption | rfl | (simp only [vcS] <;> omega) | fail) only [↓vcA, vcB, ↓reduceIte, Option.bind_some, Option.map_some, Ret_returned])
              exact hNz
            | succ k ih3 =>
              intro i wz vz hi hNz hOl hdz
              have hlt : ((i : Nat) : Int) < 8 := by omega
              have hwi : IntKind.i64.wrap (((i : Nat) : Int) + 1) = ((i + 1 : Nat) : Int) := wrap_i64 (by omega) (by omega)
              have u2 : IntKind.i64.wrap 7 = 7 := by decide
              have hw7 : IntKind.i64.wrap (7 - ((i : Nat) : Int)) = ((7 - i : Nat) : Int) := by rw [wrap_i64 (by omega) (by omega)]; omega
              have b7 : 0 ≤ ((7 - i : Nat) : Int) ∧ ((7 - i : Nat) : Int) < 8 := by omega
              obtain ⟨bb, oo, cc, e, hc⟩ := hOl.rd.at (i := 7 - i) (by omega)
              have hgv := low_be8 (8 * bs.length) i (by omega)
              rw [List.getElem?_eq_getElem (by omega)] at hgv
              have hib : i < (be8 (8 * bs.length)).length := by rw [be8_len]; omega
              rw [List.getElem?_eq_getElem hib] at hgv
              rw [Option.some.inj hgv] at hc
              rw [hbe] at e
              subst e
              (refine W_at c71_ok ?_; refine ⟨_, rfl, ?_⟩; simp (disch := first | omega | assumption | rfl | (simp only [vcS] <;> omega) | fail) only [↓vcA, vcB, ↓reduceIte, Nat.reduceEqDiff, Option.bind_some, hlt])
              (refine W_at c71_ok ?_; refine ⟨_, rfl, ?_⟩; simp (disch := first | omega | assumption | rfl | (simp only [vcS] <;> omega) | fail) only [↓vcA, vcB, ↓reduceIte, Nat.reduceEqDiff])
              (refine W_at c71_ok ?_; refine ⟨_, rfl, ?_⟩; simp (disch := first | omega | assumption | rfl | (simp only [vcS] <;> omega) | fail) only [↓vcA, vcB, ↓reduceIte, Nat.reduceEqDiff])
              (refine W_at c71_ok ?_; refine ⟨_, rfl, ?_⟩; simp (disch := first | omega | assumption | rfl | (simp only [vcS] <;> omega) | fail) only [↓vcA, vcB, ↓reduceIte, Nat.reduceEqDiff])
              (refine W_at c71_ok ?_; refine ⟨_, rfl, ?_⟩; simp (disch := first | omega | assumption | rfl | (simp only [vcS] <;> omega) | fail) only [↓ptV_l, ↓vcA, vcB, ↓reduceIte, Nat.reduceEqDiff, Int.reduceSub, Option.bind_some, Option.map_some, List.length_cons, List.length_nil, vcM, u2, hw7, b7, Int.toNat_natCast, Nat.mul_one, hc])
              have hl8 : ((be8 (8 * bs.length)).take i).length ≤ 8 := by rw [List.length_take, be8_len]; omega
              have hOo := hOl
              refine appNL (news := [(be8 (8 * bs.length))[i]]) hNz (by simp only [List.length_append, List.length_cons, List.length_replicate, List.length_nil]; omega) fun vy wy hNy hky hby => ?_
              first | (simp (disch := first | omega | assumption | rfl | (simp only [vcS] <;> omega) | fail) only [↓ptV_l, ↓vcA, vcB, ↓vcD, vcE, ↓reduceIte, Nat.reduceEqDiff, Nat.reduceAdd, Nat.reduceMul, Nat.reduceLeDiff, Int.reduceLE, Int.reduceLT, Int.reduceEq, Int.reduceToNat, Int.reduceAdd, Int.reduceSub, Int.reduceMul, Int.reduceNeg, reduceCtorEq, Option.bind_some, Option.map_some, List.length_cons, List.length_nil, vcM, List.getElem?_toArray, List.getElem?_cons_zero, List.getElem?_cons_succ]) | skip
              (refine W_at c71_ok ?_; refine ⟨_, rfl, ?_⟩; simp (disch := first | omega | assumption | rfl | (simp only [vcS] <;> omega) | fail) only [↓vcA, vcB, ↓reduceIte, Nat.reduceEqDiff, Option.bind_some, hwi])
              (refine W_at c71_ok ?_; refine ⟨_, rfl, ?_⟩; simp (disch := first | omega | assumption | rfl | (simp only [vcS] <;> omega) | fail) only [vcB])
              refine ih3 (i + 1) wy vy (by omega) ?_ (hOo.keep hky fun g hg hb => hdz g hb hg) fun g hb hg => ?_
              · rw [List.append_assoc, List.cons_append, List.append_assoc] at hNy
                have e2 : (be8 (8 * bs.length)).take (i + 1) = (be8 (8 * bs.length)).take i ++ [(be8 (8 * bs.length))[i]] := by rw [List.take_add_one, List.getElem?_eq_getElem hib]; rfl
                rw [e2]
                exact hNy
              · rcases hby g hb with h | h
                · exact hdz g h hg
                · have := hOo.lt hg; omega
          exact L3 8 0 wi vj (by omega) (by rw [List.take_zero, List.append_nil]; exact hNv) hNl.own hd
        | succ k ih2 =>
          intro i wi li y l0 hi hNv hNl hll0 hl0 hy hd
          have hlt : ((i : Nat) : Int) < 8 := by omega
          have hwi : IntKind.i64.wrap (((i : Nat) : Int) + 1) = ((i + 1 : Nat) : Int) := wrap_i64 (by omega) (by omega)
          have hm : Int.tmod ((y : Nat) : Int) 256 = ((y : Nat) : Int) % 256 := Int.tmod_eq_emod_of_nonneg (by omega)
          have hc : IntKind.u8.wrap (((y : Nat) : Int) % 256) = ((y : Nat) : Int) % 256 := by rw [wrap_u8]; omega
          have hdv : IntKind.u64.wrap (Int.tdiv ((y : Nat) : Int) 256) = ((y / 256 : Nat) : Int) := by rw [Int.tdiv_eq_ediv_of_nonneg (by omega), wrap_u64]; omega
          (refine W_at c71_ok ?_; refine ⟨_, rfl, ?_⟩; simp (disch := first | omega | assumption | rfl | (simp only [vcS] <;> omega) | fail) only [↓vcA, vcB, ↓reduceIte, Nat.reduceEqDiff, Option.bind_some, hlt])
          (refine W_at c71_ok ?_; refine ⟨_, rfl, ?_⟩; simp (disch := first | omega | assumption | rfl | (simp only [vcS] <;> omega) | fail) only [↓vcA, vcB, ↓reduceIte, Nat.reduceEqDiff])
          (refine W_at c71_ok ?_; refine ⟨_, rfl, ?_⟩; simp (disch := first | omega | assumption | rfl | (simp only [vcS] <;> omega) | fail) only [↓ptV_l, ↓vcA, vcB, ↓reduceIte, Nat.reduceEqDiff, Int.reduceEq, Option.bind_some, Option.map_some, List.length_cons, List.length_nil, vcM, hm, hc])
          refine appNL (news := [((y : Nat) : Int) % 256]) hNl (by simp; omega) fun ly wy hNy hky hby => ?_
          first | (simp (disch := first | omega | assumption | rfl | (simp only [vcS] <;> omega) | fail) only [↓ptV_l, ↓vcA, vcB, ↓vcD, vcE, ↓reduceIte, Nat.reduceEqDiff, Nat.reduceAdd, Nat.reduceMul, Nat.reduceLeDiff, Int.reduceLE, Int.reduceLT, Int.reduceEq, Int.reduceToNat, Int.reduceAdd, Int.reduceSub, Int.reduceMul, Int.reduceNeg, reduceCtorEq, Option.bind_some, Option.map_some, List.length_cons, List.length_nil, vcM, List.getElem?_toArray, List.getElem?_cons_zero, List.getElem?_cons_succ]) | skip
          (refine W_at c71_ok ?_; refine ⟨_, rfl, ?_⟩; simp (disch := first | omega | assumption | rfl | (simp only [vcS] <;> omega) | fail) only [↓vcA, vcB, ↓reduceIte, Nat.reduceEqDiff, Int.reduceEq, Option.bind_some, hdv])
          (refine W_at c71_ok ?_; refine ⟨_, rfl, ?_⟩; simp (disch := first | omega | assumption | rfl | (simp only [vcS] <;> omega) | fail) only [↓vcA, vcB, ↓reduceIte, Nat.reduceEqDiff, Option.bind_some, hwi])
          (refine W_at c71_ok ?_; refine ⟨_, rfl, ?_⟩; simp (disch := first | omega | assumption | rfl | (simp only [vcS] <;> omega) | fail) only [vcB])
          refine ih2 (i + 1) wy ly (y / 256) _ (by omega) ⟨hNv.own.keep hky fun g hg hb => hd g hg hb, hNy.ext, hNv.new⟩ hNy (by simp; omega) ?_ (by omega) fun g hg hb => ?_
          · rw [← hl0, List.append_assoc]
            have e : ((y : Nat) : Int) / 256 = ((y / 256 : Nat) : Int) := by omega
            rw [lowF, e]; rfl
          · rcases hby g hb with h | h
            · exact hd g hg h
            · have := hNv.own.lt hg; omega
      exact L2 8 0 wj _ (8 * bs.length) [] (by omega) hN ⟨Own1.nil _, hN.ext, fun g hg => by cases hg⟩ rfl rfl (by omega) fun g _ hb => by cases hb
    | succ k ih =>
      intro j wj vj hj hN
      have hll := hN.own.rd.len
      have hL : (bs ++ 128 :: List.replicate j (0 : Int)).length = bs.length + 1 + j := by simp; omega
      rw [hL] at hll
      have hm : Int.tmod ((bs.length + 1 + j : Nat) : Int) 64 = (((bs.length + 1 + j) % 64 : Nat) : Int) := by rw [Int.tmod_eq_emod_of_nonneg (by omega)]; omega
      have hz := fill_z bs.length j (by omega)
      have he : ¬ (((bs.length + 1 + j) % 64 : Nat) : Int) = 56 := by
        have : ¬ (bs.length + 1 + j) % 64 = 56 := by rw [hz]; omega
        omega
      have u1 : IntKind.i64.wrap 56 = 56 := by decide
      (refine W_at c71_ok ?_; refine ⟨_, rfl, ?_⟩; simp (disch := first | omega | assumption | rfl | (simp only [vcS] <;> omega) | fail) only [↓vcA, vcB, ↓reduceIte, Nat.reduceEqDiff, Int.reduceEq, Int.reduceSub, reduceCtorEq, Option.bind_some, hll, hm, he, u1])
      (refine W_at c71_ok ?_; refine ⟨_, rfl, ?_⟩; simp (disch := first | omega | assumption | rfl | (simp only [vcS] <;> omega) | fail) only [↓vcA, vcB, ↓reduceIte, Nat.reduceEqDiff, reduceCtorEq])
      (refine W_at c71_ok ?_; refine ⟨_, rfl, ?_⟩; simp (disch := first | omega | assumption | rfl | (simp only [vcS] <;> omega) | fail) only [↓ptV_l, ↓vcA, vcB, ↓reduceIte, Nat.reduceEqDiff, reduceCtorEq, Option.bind_some, Option.map_some, List.length_cons, List.length_nil, vcM])
      refine appNL (news := [0]) hN (by simp; omega) fun vy wy hNy _ _ => ?_
      first | (simp (disch := first | omega | assumption | rfl | (simp only [vcS] <;> omega) | fail) only [↓ptV_l, ↓vcA, vcB, ↓vcD, vcE, ↓reduceIte, Nat.reduceEqDiff, Nat.reduceAdd, Nat.reduceMul, Nat.reduceLeDiff, Int.reduceLE, Int.reduceLT, Int.reduceEq, Int.reduceToNat, Int.reduceAdd, Int.reduceSub, Int.reduceMul, Int.reduceNeg, reduceCtorEq, Option.bind_some, Option.map_some, List.length_cons, List.length_nil, vcM, List.getElem?_toArray, List.getElem?_cons_zero, List.getElem?_cons_succ]) | skip
      (refine W_at c71_ok ?_; refine ⟨_, rfl, ?_⟩; simp (disch := first | omega | assumption | rfl | (simp only [vcS] <;> omega) | fail) only [vcB])
      refine ih (j + 1) wy vy (by omega) ?_
      rw [List.append_assoc, List.cons_append, ← List.replicate_succ'] at hNy
      exact hNy
  exact L1 (63 - (bs.length + 8) % 64) 0 w2 v2 (by omega) h2
end Go.Proofs
namespace Go.Proofs
open Go.Vc
set_option maxRecDepth 10000

theorem U32_mulC (y : BitVec 32) : binR .mul (U32 y) (.int .u32 256) = some (U32 (y * 256#32)) := U32_mul y 256#32
def accF (blk : List Int) (t : Nat) : Nat → BitVec 32
  | 0 => 0
  | i + 1 => accF blk t i * 256#32 + b32 (blk.getD (4 * t + i) 0)
theorem word_acc (a b c d : Int) (ha : 0 ≤ a ∧ a ≤ 255) (hb : 0 ≤ b ∧ b ≤ 255) (hc : 0 ≤ c ∧ c ≤ 255) (hd : 0 ≤ d ∧ d ≤ 255) : (((0#32 * 256#32 + b32 a) * 256#32 + b32 b) * 256#32 + b32 c) * 256#32 + b32 d = wordF a b c d := by
  apply BitVec.eq_of_toNat_eq
  have e1 : (b32 a).toNat = a.toNat := by unfold b32; rw [BitVec.toNat_ofNat, Nat.mod_eq_of_lt (by omega)]
  have e2 : (b32 b).toNat = b.toNat := by unfold b32; rw [BitVec.toNat_ofNat, Nat.mod_eq_of_lt (by omega)]
  have e3 : (b32 c).toNat = c.toNat := by unfold b32; rw [BitVec.toNat_ofNat, Nat.mod_eq_of_lt (by omega)]
  have e4 : (b32 d).toNat = d.toNat := by unfold b32; rw [BitVec.toNat_ofNat, Nat.mod_eq_of_lt (by omega)]
  unfold wordF
  simp only [BitVec.toNat_or, BitVec.toNat_shiftLeft, BitVec.toNat_add, BitVec.toNat_mul, e1, e2, e3, e4, BitVec.toNat_ofNat]
  rw [Nat.mod_eq_of_lt (a := a.toNat <<< 24) (by rw [Nat.shiftLeft_eq]; omega), Nat.mod_eq_of_lt (a := b.toNat <<< 16) (by rw [Nat.shiftLeft_eq]; omega), Nat.mod_eq_of_lt (a := c.toNat <<< 8) (by rw [Nat.shiftLeft_eq]; omega)]
  have s1 : a.toNat <<< 24 ||| b.toNat <<< 16 = a.toNat <<< 24 + b.toNat <<< 16 := (Nat.shiftLeft_add_eq_or_of_lt (by rw [Nat.shiftLeft_eq]; omega) _).symm
  have s2 : (a.toNat <<< 24 + b.toNat <<< 16) ||| c.toNat <<< 8 = a.toNat <<< 24 + b.toNat <<< 16 + c.toNat <<< 8 := by
    have e : a.toNat <<< 24 + b.toNat <<< 16 = (a.toNat * 256 + b.toNat) <<< 16 := by simp only [Nat.shiftLeft_eq]; omega
    rw [e]
    exact (Nat.shiftLeft_add_eq_or_of_lt (by rw [Nat.shiftLeft_eq]; omega) _).symm
  have s3 : (a.toNat <<< 24 + b.toNat <<< 16 + c.toNat <<< 8) ||| d.toNat = a.toNat <<< 24 + b.toNat <<< 16 + c.toNat <<< 8 + d.toNat := by
    have e : a.toNat <<< 24 + b.toNat <<< 16 + c.toNat <<< 8 = (a.toNat * 65536 + b.toNat * 256 + c.toNat) <<< 8 := by simp only [Nat.shiftLeft_eq]; omega
    rw [e]
    exact (Nat.shiftLeft_add_eq_or_of_lt (by omega) _).symm
  rw [s1, s2, s3]
  simp only [Nat.shiftLeft_eq]
  omega
theorem acc4 (blk : List Int) (t : Nat) (h : ∀ i, i < 4 → 0 ≤ blk.getD (4 * t + i) 0 ∧ blk.getD (4 * t + i) 0 ≤ 255) : accF blk t 4 = wordF (blk.getD (4 * t) 0) (blk.getD (4 * t + 1) 0) (blk.getD (4 * t + 2) 0) (blk.getD (4 * t + 3) 0) :=
  word_acc _ _ _ _ (h 0 (by omega)) (h 1 (by omega)) (h 2 (by omega)) (h 3 (by omega))
/-- The word that is being made. -/
def arrP (ws : List (BitVec 32)) (t : Nat) (x : BitVec 32) : Array Value := (arrW ws t).setIfInBounds t (U32 x)
theorem arrP_0 (ws : List (BitVec 32)) (t : Nat) (hl : ws.length = 64) (ht : t < 64) : arrP ws t 0 = arrW ws t := by
  unfold arrP arrW
  rw [List.setIfInBounds_toArray]
  congr 1
  have hlt : ((ws.take t).map U32).length = t := by simp [hl]; omega
  rw [show 64 - t = (64 - (t + 1)) + 1 by omega, List.replicate_succ, List.set_append_right _ _ (by omega), hlt, Nat.sub_self, List.set_cons_zero]
  rfl
theorem arrP_at (ws : List (BitVec 32)) (t : Nat) (x : BitVec 32) (hl : ws.length = 64) (ht : t < 64) : (arrP ws t x)[t]? = some (U32 x) := by
  unfold arrP
  rw [Array.getElem?_setIfInBounds_self_of_lt]
  rw [arrW_size ws t hl (by omega)]; exact ht
theorem arrP_set (ws : List (BitVec 32)) (t : Nat) (x y : BitVec 32) : (arrP ws t x).setIfInBounds t (U32 y) = arrP ws t y := by
  unfold arrP
  rw [Array.setIfInBounds_setIfInBounds]
theorem arrP_size (ws : List (BitVec 32)) (t : Nat) (x : BitVec 32) (hl : ws.length = 64) (ht : t < 64) : (arrP ws t x).size = 64 := by
  unfold arrP; rw [Array.size_setIfInBounds, arrW_size ws t hl (by omega)]
theorem arrP_done (ws : List (BitVec 32)) (t : Nat) (x : BitVec 32) (hl : ws.length = 64) (ht : t < 64) (hx : ws[t]? = some x) : arrP ws t x = arrW ws (t + 1) := arrW_set ws t x hl ht hx
/-- The digest's bytes so far. -/
def outP (s : S8) (i : Nat) : List Int := (outF s).take i ++ List.replicate (32 - i) 0
theorem outF_at (s : S8) (i : Nat) (h : i < 32) : (outF s)[i]? = some (((((s.list.getD (i / 4) 0) >>> (24 - 8 * (i % 4))).toNat % 256 : Nat)) : Int) := by
  obtain ⟨a, b, hb, rfl⟩ : ∃ a b, b < 4 ∧ i = 4 * a + b := ⟨i / 4, i % 4, by omega, by omega⟩
  have e1 : (4 * a + b) / 4 = a := by omega
  have e2 : (4 * a + b) % 4 = b := by omega
  have ha : a < 8 := by omega
  rw [e1, e2]
  clear e1 e2 h
  match a, ha with
  | 0, _ => match b, hb with
    | 0, _ => rfl
    | 1, _ => rfl
    | 2, _ => rfl
    | 3, _ => rfl
  | 1, _ => match b, hb with
    | 0, _ => rfl
    | 1, _ => rfl
    | 2, _ => rfl
    | 3, _ => rfl
  | 2, _ => match b, hb with
    | 0, _ => rfl
    | 1, _ => rfl
    | 2, _ => rfl
    | 3, _ => rfl
  | 3, _ => match b, hb with
    | 0, _ => rfl
    | 1, _ => rfl
    | 2, _ => rfl
    | 3, _ => rfl
  | 4, _ => match b, hb with
    | 0, _ => rfl
    | 1, _ => rfl
    | 2, _ => rfl
    | 3, _ => rfl
  | 5, _ => match b, hb with
    | 0, _ => rfl
    | 1, _ => rfl
    | 2, _ => rfl
    | 3, _ => rfl
  | 6, _ => match b, hb with
    | 0, _ => rfl
    | 1, _ => rfl
    | 2, _ => rfl
    | 3, _ => rfl
  | 7, _ => match b, hb with
    | 0, _ => rfl
    | 1, _ => rfl
    | 2, _ => rfl
    | 3, _ => rfl
theorem outP_len (s : S8) (i : Nat) (h : i ≤ 32) : (outP s i).length = 32 := by
  unfold outP; rw [List.length_append, List.length_take, outF_len, List.length_replicate]; omega
theorem outP_set (s : S8) (i : Nat) (h : i < 32) : (outP s i).set i (((((s.list.getD (i / 4) 0) >>> (24 - 8 * (i % 4))).toNat % 256 : Nat)) : Int) = outP s (i + 1) := by
  unfold outP
  have hlt : ((outF s).take i).length = i := by rw [List.length_take, outF_len]; omega
  rw [show 32 - i = (32 - (i + 1)) + 1 by omega, List.replicate_succ, List.set_append_right _ _ (by omega), hlt, Nat.sub_self, List.set_cons_zero, List.take_add_one, outF_at s i h]
  simp
theorem outP_32 (s : S8) : outP s 32 = outF s := by
  unfold outP; rw [List.take_of_length_le (by rw [outF_len]; omega)]; simp
theorem wcs8_size (s : S8) : (wcs s.list).size = 8 := wcs_size _
theorem wcs8_bld (a b c d e f g h : BitVec 32) : (#[U32 a] ++ (#[U32 b] ++ (#[U32 c] ++ (#[U32 d] ++ (#[U32 e] ++ (#[U32 f] ++ #[U32 g, U32 h]))))) : Array Value) = wcs (S8.list ⟨a, b, c, d, e, f, g, h⟩) := by
  apply Array.ext'
  simp [wcs, S8.list]
set_option maxHeartbeats 3200000 in
theorem rsum_ok (w : World) (x : Value) (bs : List Int) (hx : Rd w x bs) (hbs : byt bs) (hl : bs.length ≤ 100000000) :
    Calls Try.prog 57 #[x] w (Ret fun u w' => u = .agg (bv (shaF bs)).toArray ∧ Ext w w') := by
  refine calls_of_cfg c57_ok (Nat.le_of_ble_eq_true rfl) ?_
  simp only [argE_nil, argE_cons, Nat.zero_add]
  (refine W_at c57_ok ?_; refine ⟨_, rfl, ?_⟩; simp (disch := first | omega | assumption | rfl | (simp only [vcS] <;> omega) | fail) only [↓ptV_l, ↓vcA, vcB, ↓reduceIte, reduceCtorEq])
  have hE0 : Ext w (w.alloc (.cells (zc [(32, .int .u8 0)]) 35)) := (Keep.refl _ w).alloc _
  have hp2 : (w.alloc (.cells (zc [(32, .int .u8 0)]) 35)).heap[w.heap.size]? = some (.cells (bv (List.replicate 32 0)).toArray 35 (0, 0)) := heap_new _ _ _ rfl
  generalize World.alloc _ _ = w1 at hE0 hp2 ⊢
  generalize hp2e : w.heap.size = p2 at hp2 ⊢
  (refine W_at c57_ok ?_; refine ⟨_, rfl, ?_⟩; simp (disch := first | omega | assumption | rfl | (simp only [vcS] <;> omega) | fail) only [↓ptV_l, ↓vcA, vcB, ↓reduceIte, Nat.reduceEqDiff, reduceCtorEq, Option.bind_some, Option.map_some, vcM])
  have e64 : (#[Value.int .u32 1116352408] ++ (#[Value.int .u32 1899447441] ++ (#[Value.int .u32 3049323471] ++ (#[Value.int .u32 3921009573] ++ (#[Value.int .u32 961987163] ++ (#[Value.int .u32 1508970993] ++ (#[Value.int .u32 2453635748] ++ (#[Value.int .u32 2870763221] ++ (#[Value.int .u32 3624381080] ++ (#[Value.int .u32 310598401] ++ (#[Value.int .u32 607225278] ++ (#[Value.int .u32 1426881987] ++ (#[Value.int .u32 1925078388] ++ (#[Value.int .u32 2162078206] ++ (#[Value.int .u32 2614888103] ++ (#[Value.int .u32 3248222580] ++ (#[Value.int .u32 3835390401] ++ (#[Value.int .u32 4022224774] ++ (#[Value.int .u32 264347078] ++ (#[Value.int .u32 604807628] ++ (#[Value.int .u32 770255983] ++ (#[Value.int .u32 1249150122] ++ (#[Value.int .u32 1555081692] ++ (#[Value.int .u32 1996064986] ++ (#[Value.int .u32 2554220882] ++ (#[Value.int .u32 2821834349] ++ (#[Value.int .u32 2952996808] ++ (#[Value.int .u32 3210313671] ++ (#[Value.int .u32 3336571891] ++ (#[Value.int .u32 3584528711] ++ (#[Value.int .u32 113926993] ++ (#[Value.int .u32 338241895] ++ (#[Value.int .u32 666307205] ++ (#[Value.int .u32 773529912] ++ (#[Value.int .u32 1294757372] ++ (#[Value.int .u32 1396182291] ++ (#[Value.int .u32 1695183700] ++ (#[Value.int .u32 1986661051] ++ (#[Value.int .u32 2177026350] ++ (#[Value.int .u32 2456956037] ++ (#[Value.int .u32 2730485921] ++ (#[Value.int .u32 2820302411] ++ (#[Value.int .u32 3259730800] ++ (#[Value.int .u32 3345764771] ++ (#[Value.int .u32 3516065817] ++ (#[Value.int .u32 3600352804] ++ (#[Value.int .u32 4094571909] ++ (#[Value.int .u32 275423344] ++ (#[Value.int .u32 430227734] ++ (#[Value.int .u32 506948616] ++ (#[Value.int .u32 659060556] ++ (#[Value.int .u32 883997877] ++ (#[Value.int .u32 958139571] ++ (#[Value.int .u32 1322822218] ++ (#[Value.int .u32 1537002063] ++ (#[Value.int .u32 1747873779] ++ (#[Value.int .u32 1955562222] ++ (#[Value.int .u32 2024104815] ++ (#[Value.int .u32 2227730452] ++ (#[Value.int .u32 2361852424] ++ (#[Value.int .u32 2428436474] ++ (#[Value.int .u32 2756734187] ++ (#[Value.int .u32 3204031479, Value.int .u32 3329325298])))))))))))))))))))))))))))))))))))))))))))))))))))))))))))))) : Array Value) = wcs kL := by kernel_rfl
  rw [e64]
  clear e64
  have s64 : (wcs kL).size = 64 := by rw [wcs_size, kL_len]
  have z64 : (zc [(64, Value.int .u32 0)]).size = 64 := by simp [zc, runs]
  have hE1 : Ext w1 ((w1.alloc (.cells (zc [(64, .int .u32 0)]) 97)).putN w1.heap.size 0 (wcs kL)) := ((Keep.refl _ w1).alloc _).putN _ (by intro hh; exfalso; omega)
  have hp3 : ((w1.alloc (.cells (zc [(64, .int .u32 0)]) 97)).putN w1.heap.size 0 (wcs kL)).heap[w1.heap.size]? = some (.cells (wcs kL) 97 (0, 0)) := by
    rw [heap_putN_eq (heap_new _ _ _ rfl), splice_all (by rw [s64, z64])]
  first | refine ⟨s64, wcs_flat _, ?_⟩ | skip
  have hp2l := lt_of_heap hp2
  generalize World.putN _ _ _ _ = w2 at hE1 hp3 ⊢
  generalize w1.heap.size = p3 at hp3 hp2l ⊢
  have hp22 := hE1.at hp2 (fun h => h)
  (refine W_at c57_ok ?_; refine ⟨_, rfl, ?_⟩; simp (disch := first | omega | assumption | rfl | (simp only [vcS] <;> omega) | fail) only [↓ptV_l, ↓vcA, vcB, ↓reduceIte, Nat.reduceEqDiff, reduceCtorEq, Option.bind_some, Option.map_some, vcM])
  have e8 : (#[Value.int .u32 1779033703] ++ (#[Value.int .u32 3144134277] ++ (#[Value.int .u32 1013904242] ++ (#[Value.int .u32 2773480762] ++ (#[Value.int .u32 1359893119] ++ (#[Value.int .u32 2600822924] ++ (#[Value.int .u32 528734635, Value.int .u32 1541459225])))))) : Array Value) = wcs iv.list := by kernel_rfl
  rw [e8]
  clear e8
  have s8 : (wcs iv.list).size = 8 := wcs_size _
  have hE2 : Ext w2 ((w2.alloc (.cells (zc [(8, .int .u32 0)]) 83)).putN w2.heap.size 0 (wcs iv.list)) := ((Keep.refl _ w2).alloc _).putN _ (by intro hh; exfalso; omega)
  have hp4 : ((w2.alloc (.cells (zc [(8, .int .u32 0)]) 83)).putN w2.heap.size 0 (wcs iv.list)).heap[w2.heap.size]? = some (.cells (wcs iv.list) 83 (0, 0)) := by
    rw [heap_putN_eq (heap_new _ _ _ rfl), splice_all (by rfl)]
  first | refine ⟨s8, wcs_flat _, ?_⟩ | skip
  have hp3l := lt_of_heap hp3
  generalize World.putN _ _ _ _ = w3 at hE2 hp4 ⊢
  generalize w2.heap.size = p4 at hp4 hp3l ⊢
  have hEE := (hE0.ext hE1).ext hE2
  (refine W_at c57_ok ?_; refine ⟨_, rfl, ?_⟩; simp (disch := first | omega | assumption | rfl | (simp only [vcS] <;> omega) | fail) only [↓ptV_l, ↓vcA, vcB, ↓reduceIte, Nat.reduceEqDiff, reduceCtorEq, Option.bind_some, Option.map_some])
  refine callV_ret (fill_ok w3 x bs (hx.ext hEE) hl) ?_
  intro mv w4 hN
  have hp24 := (hE2.ext hN.ext).at hp22 (fun h => h)
  have hp34 := (hE2.ext hN.ext).at hp3 (fun h => h)
  have hp44 := hN.ext.at hp4 (fun h => h)
  have hEw4 := hEE.ext hN.ext
  have hmb : byt (allF bs) := byt_app hbs (padF_byt _)
  obtain ⟨nb, hnb⟩ := allF_len bs
  have hpl := padF_len bs.length
  have hall : (allF bs).length ≤ 200000000 := by unfold allF; rw [List.length_append]; omega
  have hm4 := hN.own
  have hmnew := hN.new
  have hp4l3 := lt_of_heap hp4
  have hsha : shaF bs = outF (runN (nb + 1) iv (allF bs)) := by unfold shaF; rw [hnb, Nat.mul_div_cancel_left _ (by omega)]
  rw [hsha]
  generalize allF bs = mm at hm4 hmb hnb hall ⊢
  first | (simp (disch := first | omega | assumption | rfl | (simp only [vcS] <;> omega) | fail) only [↓ptV_l, ↓vcA, vcB, ↓vcD, vcE, ↓reduceIte, Nat.reduceEqDiff, Nat.reduceAdd, Nat.reduceMul, Nat.reduceLeDiff, Int.reduceLE, Int.reduceLT, Int.reduceEq, Int.reduceToNat, Int.reduceAdd, Int.reduceSub, Int.reduceMul, Int.reduceNeg, reduceCtorEq, Option.bind_some, Option.map_some, List.length_cons, List.length_nil, vcM, List.getElem?_toArray, List.getElem?_cons_zero, List.getElem?_cons_succ]) | skip
  (refine W_at c57_ok ?_; refine ⟨_, rfl, ?_⟩; simp (disch := first | omega | assumption | rfl | (simp only [vcS] <;> omega) | fail) only [↓vcA, vcB, ↓reduceIte, Nat.reduceEqDiff])
  have hp2w : w.heap.size ≤ p2 := by omega
  -- the bytes of the digest
  have fin : ∀ (wj : World) (st : S8) (tl : Env), wj.heap[p4]? = some (.cells (wcs st.list) 83 (0, 0)) → wj.heap[p2]? = some (.cells (bv (List.replicate 32 0)).toArray 35 (0, 0)) → Ext w wj → st = runN (nb + 1) iv mm →
      W Try.prog (Ret fun u w' => u = .agg (bv (outF (runN (nb + 1) iv mm))).toArray ∧ Ext w w') 57 9 ((2, .pointer (some ⟨p2, 0, none⟩)) :: (3, .pointer (some ⟨p3, 0, none⟩)) :: (4, .pointer (some ⟨p4, 0, none⟩)) :: tl) wj := by
    intro wj st tl h4 h2 hE hst
    (refine W_at c57_ok ?_; refine ⟨_, rfl, ?_⟩; simp (disch := first | omega | assumption | rfl | (simp only [vcS] <;> omega) | fail) only [↓ptV_l, ↓vcA, vcB, ↓reduceIte, Nat.reduceEqDiff])
    have hEa : Ext wj (wj.alloc (.cells (zc [(32, .int .u8 0)]) 35)) := (Keep.refl _ wj).alloc _
    have h18 : (wj.alloc (.cells (zc [(32, .int .u8 0)]) 35)).heap[wj.heap.size]? = some (.cells (bv (outP st 0)).toArray 35 (0, 0)) := heap_new _ _ _ rfl
    have h4l := lt_of_heap h4
    have h2l := lt_of_heap h2
    have hwl := hE.size
    generalize World.alloc _ _ = wa at hEa h18 ⊢
    generalize wj.heap.size = p18 at h18 h4l h2l hwl ⊢
    have h4a := hEa.at h4 (fun h => h)
    have h2a := hEa.at h2 (fun h => h)
    (refine W_at c57_ok ?_; refine ⟨_, rfl, ?_⟩; simp (disch := first | omega | assumption | rfl | (simp only [vcS] <;> omega) | fail) only [↓vcA, vcB, ↓reduceIte, Nat.reduceEqDiff])
    have LE : ∀ (k i : Nat) (wz : World), i + k = 32 → wz.heap[p18]? = some (.cells (bv (outP st i)).toArray 35 (0, 0)) → wz.heap[p4]? = some (.cells (wcs st.list) 83 (0, 0)) → wz.heap[p2]? = some (.cells (bv (List.replicate 32 0)).toArray 35 (0, 0)) → Ext w wz →
        W Try.prog (Ret fun u w' => u = .agg (bv (outF (runN (nb + 1) iv mm))).toArray ∧ Ext w w') 57 7 [(2, .pointer (some ⟨p2, 0, none⟩)), (4, .pointer (some ⟨p4, 0, none⟩)), (18, .pointer (some ⟨p18, 0, none⟩)), (19, .int .i64 (i : Nat))] wz := by
      intro k
      induction k with
      | zero =>
        intro i wz hi h18 h4 h2 hEz
        obtain rfl : i = 32 := by omega
        rw [outP_32] at h18
        have hr32 : rdO (some (.cells (bv (outF st)).toArray 35 (0, 0))) 0 32 = some (bv (outF st)).toArray := rdO_all _ _ _ _ (by rw [bva_size, outF_len])
        have s32 : (bv (outF st)).toArray.size = 32 := by rw [bva_size, outF_len]
        have hok : okO (some (.cells (bv (List.replicate 32 0)).toArray 35 (0, 0))) 0 32 = True := by simp only [okO, bva_size, List.length_replicate]; simp
        (refine W_at c57_ok ?_; refine ⟨_, rfl, ?_⟩; simp (disch := first | omega | assumption | rfl | (simp only [vcS] <;> omega) | fail) only [↓vcA, vcB, ↓reduceIte, Nat.reduceEqDiff, Int.reduceLT, Option.bind_some, vcM])
        (refine W_at c57_ok ?_; refine ⟨_, rfl, ?_⟩; simp (disch := first | omega | assumption | rfl | (simp only [vcS] <;> omega) | fail) only [↓vcA, vcB, ↓reduceIte, Nat.reduceEqDiff])
        (refine W_at c57_ok ?_; refine ⟨_, rfl, ?_⟩; simp (disch := first | omega | assumption | rfl | (simp only [vcS] <;> omega) | fail) only [↓ptV_l, ↓vcA, vcB, ↓reduceIte, Nat.reduceEqDiff, Option.bind_some, Option.map_some, vcM, h18, h2, hr32, s32, hok])
        have k2 : Keep (fun y => y = p2) wz (wz.putN p2 0 (bv (outF st)).toArray) := (Keep.refl _ wz).putN _ fun _ => rfl
        have h2' : (wz.putN p2 0 (bv (outF st)).toArray).heap[p2]? = some (.cells (bv (outF st)).toArray 35 (0, 0)) := by
          rw [heap_putN_eq h2, splice_all (by rw [bva_size, bva_size, outF_len]; rfl)]
        refine ⟨bv_flat _, ?_⟩
        have hEk : Ext w (wz.putN p2 0 (bv (outF st)).toArray) := hEz.trans k2 fun x hx e => by omega
        generalize World.putN _ _ _ _ = wk at k2 h2' hEk ⊢
        (refine W_at c57_ok ?_; refine ⟨_, rfl, ?_⟩; simp (disch := first | omega | assumption | rfl | (simp only [vcS] <;> omega) | fail) only [↓vcA, vcB, ↓reduceIte, Option.bind_some, Option.map_some, vcM, Ret_returned, h2', hr32])
        exact ⟨by rw [← hst], hEk⟩
      | succ k ih =>
        intro i wz hi h18 h4 h2 hEz
        have hlt : ((i : Nat) : Int) < 32 := by omega
        have b1 : 0 ≤ ((i : Nat) : Int) ∧ ((i : Nat) : Int) < 32 := by omega
        have hwi : IntKind.i64.wrap (((i : Nat) : Int) + 1) = ((i + 1 : Nat) : Int) := wrap_i64 (by omega) (by omega)
        have hq : Int.tdiv ((i : Nat) : Int) 4 = ((i / 4 : Nat) : Int) := by rw [Int.tdiv_eq_ediv_of_nonneg (by omega)]; omega
        have hq2 : IntKind.i64.wrap ((i / 4 : Nat) : Int) = ((i / 4 : Nat) : Int) := wrap_i64 (by omega) (by omega)
        have hm : Int.tmod ((i : Nat) : Int) 4 = ((i % 4 : Nat) : Int) := by rw [Int.tmod_eq_emod_of_nonneg (by omega)]; omega
        have hw8 : IntKind.i64.wrap (8 * ((i % 4 : Nat) : Int)) = ((8 * (i % 4) : Nat) : Int) := by rw [wrap_i64 (by omega) (by omega)]; omega
        have hws : IntKind.i64.wrap (24 - ((8 * (i % 4) : Nat) : Int)) = ((24 - 8 * (i % 4) : Nat) : Int) := by rw [wrap_i64 (by omega) (by omega)]; omega
        have hwu : IntKind.u64.wrap ((24 - 8 * (i % 4) : Nat) : Int) = ((24 - 8 * (i % 4) : Nat) : Int) := by rw [wrap_u64]; omega
        have bq : 0 ≤ ((i / 4 : Nat) : Int) ∧ ((i / 4 : Nat) : Int) < 8 := by omega
        have hel := wcs8_at st (i / 4) (by omega)
        have hsh := U32_shr (st.list.getD (i / 4) 0) .u64 (24 - 8 * (i % 4)) (by omega)
        obtain ⟨a1, c1, e1⟩ := poke (((((st.list.getD (i / 4) 0) >>> (24 - 8 * (i % 4))).toNat % 256 : Nat)) : Int) h18 (i := i) (by rw [outP_len _ _ (by omega)]; omega)
        rw [outP_set st i (by omega)] at c1
        (refine W_at c57_ok ?_; refine ⟨_, rfl, ?_⟩; simp (disch := first | omega | assumption | rfl | (simp only [vcS] <;> omega) | fail) only [↓vcA, vcB, ↓reduceIte, Nat.reduceEqDiff, Option.bind_some, hlt])
        (refine W_at c57_ok ?_; refine ⟨_, rfl, ?_⟩; simp (disch := first | omega | assumption | rfl | (simp only [vcS] <;> omega) | fail) only [↓vcA, vcB, ↓reduceIte, Nat.reduceEqDiff])
        (refine W_at c57_ok ?_; refine ⟨_, rfl, ?_⟩; simp (disch := first | omega | assumption | rfl | (simp only [vcS] <;> omega) | fail) only [↓ptV_l, ↓vcA, vcB, ↓reduceIte, Nat.reduceEqDiff, Int.reduceEq, Option.bind_some, vcM, h4, hq, hq2, hm, hw8, hws, hwu, bq, b1, Int.toNat_natCast, Nat.mul_one, hel, hsh, cvi8])
        refine ⟨a1, ?_⟩
        have h4k := e1.at h4 (by omega)
        have h2k := e1.at h2 (by omega)
        have hEk := hEz.trans e1 fun x hx e => by omega
        generalize World.setCell _ _ _ = wk at c1 h4k h2k hEk ⊢
        (refine W_at c57_ok ?_; refine ⟨_, rfl, ?_⟩; simp (disch := first | omega | assumption | rfl | (simp only [vcS] <;> omega) | fail) only [↓vcA, vcB, ↓reduceIte, Nat.reduceEqDiff, Option.bind_some, hwi])
        (refine W_at c57_ok ?_; refine ⟨_, rfl, ?_⟩; simp (disch := first | omega | assumption | rfl | (simp only [vcS] <;> omega) | fail) only [vcB])
        exact ih (i + 1) wk (by omega) c1 h4k h2k hEk
    exact LE 32 0 wa (by omega) h18 h4a h2a (hE.ext hEa)
  have L : ∀ (k j : Nat) (wj : World), j + k = nb + 1 → wj.heap[p4]? = some (.cells (wcs (runN j iv mm).list) 83 (0, 0)) → wj.heap[p2]? = some (.cells (bv (List.replicate 32 0)).toArray 35 (0, 0)) → wj.heap[p3]? = some (.cells (wcs kL) 97 (0, 0)) → Own1 wj mv mm → Ext w wj →
      W Try.prog (Ret fun u w' => u = .agg (bv (outF (runN (nb + 1) iv mm))).toArray ∧ Ext w w') 57 48 [(2, .pointer (some ⟨p2, 0, none⟩)), (3, .pointer (some ⟨p3, 0, none⟩)), (4, .pointer (some ⟨p4, 0, none⟩)), (5, mv), (6, .int .i64 ((64 * j : Nat) : Int))] wj := by
    intro k
    induction k with
    | zero =>
      intro j wj hj h4 h2 h3 hO hE
      obtain rfl : j = nb + 1 := by omega
      have hlm := hO.rd.len
      have hno : ¬ ((64 * (nb + 1) : Nat) : Int) < (mm.length : Nat) := by omega
      (refine W_at c57_ok ?_; refine ⟨_, rfl, ?_⟩; simp (disch := first | omega | assumption | rfl | (simp only [vcS] <;> omega) | fail) only [↓vcA, vcB, ↓reduceIte, Nat.reduceEqDiff, Option.bind_some, hlm, hno])
      (refine W_at c57_ok ?_; refine ⟨_, rfl, ?_⟩; simp (disch := first | omega | assumption | rfl | (simp only [vcS] <;> omega) | fail) only [↓vcA, vcB, ↓reduceIte, Nat.reduceEqDiff])
      exact fin wj _ _ h4 h2 hE rfl
    | succ k ih =>
      intro j wj hj h4 h2 h3 hO hE
      have hlm := hO.rd.len
      have hyes : ((64 * j : Nat) : Int) < (mm.length : Nat) := by omega
      have hstep := runN_step mm j
      have hblen : ((mm.drop (64 * j)).take 64).length = 64 := by rw [List.length_take, List.length_drop]; omega
      have hbat : ∀ o, o < 64 → ((mm.drop (64 * j)).take 64).getD o 0 = mm.getD (64 * j + o) 0 := fun o ho => by
        simp only [List.getD, List.getElem?_take_of_lt ho, List.getElem?_drop]
      have hbb : byt ((mm.drop (64 * j)).take 64) := byt_take (byt_drop hmb _) _
      generalize (mm.drop (64 * j)).take 64 = blk at hstep hblen hbat hbb
      have hws := wsF_len blk
      have hcomp : compF (runN j iv mm) blk = (runN j iv mm).add (rndN 64 (runN j iv mm) kL (wsF blk)) := rfl
      generalize hwsd : wsF blk = ws at hws hcomp
      rw [hcomp] at hstep
      generalize runN j iv mm = st at hstep h4
      have hw64 : IntKind.i64.wrap (((64 * j : Nat) : Int) + 64) = ((64 * (j + 1) : Nat) : Int) := by rw [wrap_i64 (by omega) (by omega)]; omega
      (refine W_at c57_ok ?_; refine ⟨_, rfl, ?_⟩; simp (disch := first | omega | assumption | rfl | (simp only [vcS] <;> omega) | fail) only [↓vcA, vcB, ↓reduceIte, Nat.reduceEqDiff, Option.bind_some, hlm, hyes])
      (refine W_at c57_ok ?_; refine ⟨_, rfl, ?_⟩; simp (disch := first | omega | assumption | rfl | (simp only [vcS] <;> omega) | fail) only [↓vcA, vcB, ↓reduceIte, Nat.reduceEqDiff])
      (refine W_at c57_ok ?_; refine ⟨_, rfl, ?_⟩; simp (disch := first | omega | assumption | rfl | (simp only [vcS] <;> omega) | fail) only [↓ptV_l, ↓vcA, vcB, ↓reduceIte, Nat.reduceEqDiff])
      have hEa : Ext wj (wj.alloc (.cells (zc [(64, .int .u32 0)]) 97)) := (Keep.refl _ wj).alloc _
      have h7 : (wj.alloc (.cells (zc [(64, .int .u32 0)]) 97)).heap[wj.heap.size]? = some (.cells (arrW ws 0) 97 (0, 0)) := by rw [arrW_0]; exact heap_new _ _ _ rfl
      have h4l := lt_of_heap h4
      have h3l := lt_of_heap h3
      have h2l := lt_of_heap h2
      have hml : ∀ g, Go.Proofs.blk mv g → g < wj.heap.size := fun g hg => hO.lt hg
      generalize World.alloc _ _ = wa at hEa h7 ⊢
      generalize hp7e : wj.heap.size = p7 at h7 h4l h3l h2l hml ⊢
      have hEwa := hE.ext hEa
      -- the rest of a block
      have restB : ∀ (wz : World) (tl : Env), wz.heap[p7]? = some (.cells (wcs ws) 97 (0, 0)) → Ext wj wz → W Try.prog (Ret fun u w' => u = .agg (bv (outF (runN (nb + 1) iv mm))).toArray ∧ Ext w w') 57 26 ((2, .pointer (some ⟨p2, 0, none⟩)) :: (3, .pointer (some ⟨p3, 0, none⟩)) :: (4, .pointer (some ⟨p4, 0, none⟩)) :: (5, mv) :: (6, .int .i64 ((64 * j : Nat) : Int)) :: (7, .pointer (some ⟨p7, 0, none⟩)) :: tl) wz := by
        intro wz tl h7 hEz
        have hwz := hE.ext hEz
        have h4z := hEz.at h4 (fun h => h)
        have h2z := hEz.at h2 (fun h => h)
        have h3z := hEz.at h3 (fun h => h)
        have hOz := hO.ext hEz
        have s8 : (wcs st.list).size = 8 := wcs_size _
        have hr8 : rdO (some (.cells (wcs st.list) 83 (0, 0))) 0 8 = some (wcs st.list) := rdO_all _ _ _ _ s8
        (refine W_at c57_ok ?_; refine ⟨_, rfl, ?_⟩; simp (disch := first | omega | assumption | rfl | (simp only [vcS] <;> omega) | fail) only [↓ptV_l, ↓vcA, vcB, ↓reduceIte, Nat.reduceEqDiff, Option.bind_some, Option.map_some, vcM, h4z, hr8, s8])
        have h13 : ((wz.alloc (.cells (zc [(8, .int .u32 0)]) 83)).putN wz.heap.size 0 (wcs st.list)).heap[wz.heap.size]? = some (.cells (wcs st.list) 83 (0, 0)) := by
          rw [heap_putN_eq (heap_new _ _ _ rfl), splice_all (by rfl)]
        have hEb : Ext wz ((wz.alloc (.cells (zc [(8, .int .u32 0)]) 83)).putN wz.heap.size 0 (wcs st.list)) := ((Keep.refl _ wz).alloc _).putN _ (by intro hh; exfalso; omega)
        first | refine ⟨wcs_flat _, ?_⟩ | skip
        have h7l := lt_of_heap h7
        generalize World.putN _ _ _ _ = wb at h13 hEb ⊢
        have hp13e : wz.heap.size ≤ wz.heap.size := Nat.le_refl _
        generalize hp13 : wz.heap.size = p13 at h13 h7l hp13e ⊢
        have h7b := hEb.at h7 (fun h => h)
        have hjb := hEz.ext hEb
        (refine W_at c57_ok ?_; refine ⟨_, rfl, ?_⟩; simp (disch := first | omega | assumption | rfl | (simp only [vcS] <;> omega) | fail) only [↓vcA, vcB, ↓reduceIte, Nat.reduceEqDiff])
        have LC : ∀ (k t : Nat) (wc : World), t + k = 64 → wc.heap[p13]? = some (.cells (wcs (rndN t st kL ws).list) 83 (0, 0)) → wc.heap[p7]? = some (.cells (wcs ws) 97 (0, 0)) → Ext wj wc → W Try.prog (Ret fun u w' => u = .agg (bv (outF (runN (nb + 1) iv mm))).toArray ∧ Ext w w') 57 24 [(2, .pointer (some ⟨p2, 0, none⟩)), (3, .pointer (some ⟨p3, 0, none⟩)), (4, .pointer (some ⟨p4, 0, none⟩)), (5, mv), (6, .int .i64 ((64 * j : Nat) : Int)), (7, .pointer (some ⟨p7, 0, none⟩)), (13, .pointer (some ⟨p13, 0, none⟩)), (14, .int .i64 (t : Nat))] wc := by
          intro k
          induction k with
          | zero =>
            intro t wc ht h13 h7 hEc
            obtain rfl : t = 64 := by omega
            (refine W_at c57_ok ?_; refine ⟨_, rfl, ?_⟩; simp (disch := first | omega | assumption | rfl | (simp only [vcS] <;> omega) | fail) only [↓vcA, vcB, ↓reduceIte, Nat.reduceEqDiff, Int.reduceLT, Option.bind_some, vcM])
            (refine W_at c57_ok ?_; refine ⟨_, rfl, ?_⟩; simp (disch := first | omega | assumption | rfl | (simp only [vcS] <;> omega) | fail) only [↓vcA, vcB, ↓reduceIte, Nat.reduceEqDiff])
            (refine W_at c57_ok ?_; refine ⟨_, rfl, ?_⟩; simp (disch := first | omega | assumption | rfl | (simp only [vcS] <;> omega) | fail) only [↓vcA, vcB, ↓reduceIte, Nat.reduceEqDiff])
            generalize rndN 64 st kL ws = v at hstep h13
            have h4c := hEc.at h4 (fun h => h)
            rw [show wcs st.list = addA st v [] 0 from rfl] at h4c
            have LD : ∀ (k i : Nat) (wd : World), i + k = 8 → wd.heap[p4]? = some (.cells (addA st v [] i) 83 (0, 0)) → wd.heap[p13]? = some (.cells (wcs v.list) 83 (0, 0)) → Keep (fun y => y = p4) wj wd → W Try.prog (Ret fun u w' => u = .agg (bv (outF (runN (nb + 1) iv mm))).toArray ∧ Ext w w') 57 16 [(2, .pointer (some ⟨p2, 0, none⟩)), (3, .pointer (some ⟨p3, 0, none⟩)), (4, .pointer (some ⟨p4, 0, none⟩)), (5, mv), (6, .int .i64 ((64 * j : Nat) : Int)), (13, .pointer (some ⟨p13, 0, none⟩)), (17, .int .i64 (i : Nat))] wd := by
              intro k
              induction k with
              | zero =>
                intro i wd hi h4d h13d hK
                obtain rfl : i = 8 := by omega
                rw [addA_8, List.append_nil] at h4d
                (refine W_at c57_ok ?_; refine ⟨_, rfl, ?_⟩; simp (disch := first | omega | assumption | rfl | (simp only [vcS] <;> omega) | fail) only [↓vcA, vcB, ↓reduceIte, Nat.reduceEqDiff, Int.reduceLT, Option.bind_some, vcM])
                (refine W_at c57_ok ?_; refine ⟨_, rfl, ?_⟩; simp (disch := first | omega | assumption | rfl | (simp only [vcS] <;> omega) | fail) only [↓vcA, vcB, ↓reduceIte, Nat.reduceEqDiff])
                (refine W_at c57_ok ?_; refine ⟨_, rfl, ?_⟩; simp (disch := first | omega | assumption | rfl | (simp only [vcS] <;> omega) | fail) only [↓vcA, vcB, ↓reduceIte, Nat.reduceEqDiff, Option.bind_some, hw64])
                (refine W_at c57_ok ?_; refine ⟨_, rfl, ?_⟩; simp (disch := first | omega | assumption | rfl | (simp only [vcS] <;> omega) | fail) only [vcB])
                refine ih (j + 1) wd (by omega) (by rw [hstep]; exact h4d) (hK.at h2 (by omega)) (hK.at h3 (by omega)) (hO.keep hK fun g hg e => ?_) (hE.trans hK fun i hi e => by omega)
                subst e
                obtain ⟨c, hc⟩ := row_type hO hg
                rw [h4] at hc; cases hc
              | succ k ihD =>
                intro i wd hi h4d h13d hK
                have hlt : ((i : Nat) : Int) < 8 := by omega
                have b1 : 0 ≤ ((i : Nat) : Int) ∧ ((i : Nat) : Int) < 8 := by omega
                have hwi : IntKind.i64.wrap (((i : Nat) : Int) + 1) = ((i + 1 : Nat) : Int) := wrap_i64 (by omega) (by omega)
                have e1 := addA_at st v [] i (by omega)
                have e2 := wcs8_at v i (by omega)
                have e3 := addA_set st v [] i (by omega)
                have hsz := addA_size st v [] i (by omega)
                (refine W_at c57_ok ?_; refine ⟨_, rfl, ?_⟩; simp (disch := first | omega | assumption | rfl | (simp only [vcS] <;> omega) | fail) only [↓vcA, vcB, ↓reduceIte, Nat.reduceEqDiff, Option.bind_some, hlt])
                (refine W_at c57_ok ?_; refine ⟨_, rfl, ?_⟩; simp (disch := first | omega | assumption | rfl | (simp only [vcS] <;> omega) | fail) only [↓vcA, vcB, ↓reduceIte, Nat.reduceEqDiff])
                (refine W_at c57_ok ?_; refine ⟨_, rfl, ?_⟩; simp (disch := first | omega | assumption | rfl | (simp only [vcS] <;> omega) | fail) only [↓ptV_l, ↓vcA, vcB, ↓reduceIte, Nat.reduceEqDiff, Option.bind_some, vcM, h4d, h13d, b1, Int.toNat_natCast, Nat.mul_one, e1, e2, U32_add])
                have h4e : wd.drew.heap[p4]? = some (.cells (addA st v [] i) 83 (0, 0)) := h4d
                have h13e : wd.drew.heap[p13]? = some (.cells (wcs v.list) 83 (0, 0)) := h13d
                have hKe := hK.drew
                generalize wd.drew = we at h4e h13e hKe ⊢
                refine ⟨rfl, wr1_of h4e (by rw [hsz]; omega), ?_⟩
                have h4f : (we.setCell ⟨p4, i, none⟩ (U32 (st.list.getD i 0 + v.list.getD i 0))).heap[p4]? = some (.cells (addA st v [] (i + 1)) 83 (0, 0)) := by rw [heap_setCell_eq h4e, e3]
                have kf : Keep (fun x => x = p4) we (we.setCell ⟨p4, i, none⟩ (U32 (st.list.getD i 0 + v.list.getD i 0))) := (Keep.refl _ we).setCell _ fun _ => rfl
                have h13f := kf.at h13e (by omega)
                generalize World.setCell _ _ _ = wf at h4f kf h13f ⊢
                (refine W_at c57_ok ?_; refine ⟨_, rfl, ?_⟩; simp (disch := first | omega | assumption | rfl | (simp only [vcS] <;> omega) | fail) only [↓vcA, vcB, ↓reduceIte, Nat.reduceEqDiff, Option.bind_some, hwi])
                (refine W_at c57_ok ?_; refine ⟨_, rfl, ?_⟩; simp (disch := first | omega | assumption | rfl | (simp only [vcS] <;> omega) | fail) only [vcB])
                exact ihD (i + 1) wf (by omega) h4f h13f (hKe.trans kf fun _ _ h => h)
            exact LD 8 0 wc (by omega) h4c h13 (hEc.mono fun _ h => h.elim)
          | succ k ihC =>
            intro t wc ht h13 h7 hEc
            have hlt : ((t : Nat) : Int) < 64 := by omega
            have b1 : 0 ≤ ((t : Nat) : Int) ∧ ((t : Nat) : Int) < 64 := by omega
            have hwi : IntKind.i64.wrap (((t : Nat) : Int) + 1) = ((t + 1 : Nat) : Int) := wrap_i64 (by omega) (by omega)
            have hkl64 := kL_len
            have hrs := rndN_snoc t st kL ws (by omega) (by omega)
            have hwsi : (wcs ws)[t]? = some (U32 (ws[t]'(by omega))) := by simp [wcs, List.getElem?_eq_getElem (show t < ws.length by omega)]
            have hki : (wcs kL)[t]? = some (U32 (kL[t]'(by omega))) := by simp [wcs, List.getElem?_eq_getElem (show t < kL.length by omega)]
            have h3c := hEc.at h3 (fun h => h)
            generalize ws[t]'(by omega) = xi at hrs hwsi
            generalize kL[t]'(by omega) = ki at hrs hki
            generalize rndN t st kL ws = s at hrs h13
            have v0 : (wcs s.list)[0]? = some (U32 s.a) := rfl
            have v1 : (wcs s.list)[1]? = some (U32 s.b) := rfl
            have v2 : (wcs s.list)[2]? = some (U32 s.c) := rfl
            have v3 : (wcs s.list)[3]? = some (U32 s.d) := rfl
            have v4 : (wcs s.list)[4]? = some (U32 s.e) := rfl
            have v5 : (wcs s.list)[5]? = some (U32 s.f) := rfl
            have v6 : (wcs s.list)[6]? = some (U32 s.g) := rfl
            have v7 : (wcs s.list)[7]? = some (U32 s.h) := rfl
            (refine W_at c57_ok ?_; refine ⟨_, rfl, ?_⟩; simp (disch := first | omega | assumption | rfl | (simp only [vcS] <;> omega) | fail) only [↓vcA, vcB, ↓reduceIte, Nat.reduceEqDiff, Option.bind_some, hlt])
            (refine W_at c57_ok ?_; refine ⟨_, rfl, ?_⟩; simp (disch := first | omega | assumption | rfl | (simp only [vcS] <;> omega) | fail) only [↓vcA, vcB, ↓reduceIte, Nat.reduceEqDiff])
            (refine W_at c57_ok ?_; refine ⟨_, rfl, ?_⟩; simp (disch := first | omega | assumption | rfl | (simp only [vcS] <;> omega) | fail) only [↓vcL1, ↓vcA, vcB, ↓reduceIte, Nat.reduceEqDiff, Int.reduceLE, Int.reduceLT, Int.reduceToNat, Option.bind_some, Option.map_some, vcM, h13, h7, h3c, v4, v5, v6, v7, b1, Int.toNat_natCast, Nat.mul_one, hki, hwsi, U32_and, U32_xor, U32_not])
            have hEd : Ext wc wc.drew := (Keep.refl _ wc).drew
            have h13d := hEd.at h13 (fun h => h)
            have h7d := hEd.at h7 (fun h => h)
            have h3d := hEd.at h3c (fun h => h)
            have hEjd := hEc.ext hEd
            generalize wc.drew = wd at h13d h7d h3d hEjd ⊢
            clear hEd
            refine callV_ret (rrot_ok wd s.e 26 6 (by decide) (by decide) (by decide)) ?_
            rintro _ wq ⟨rfl, hw⟩
            obtain rfl : wd = wq := hw.symm
            simp (disch := first | omega | assumption | rfl | (simp only [vcS] <;> omega) | fail) only [↓vcL2, ptS1_eq, ↓vcA, vcB, ↓reduceIte, Nat.reduceEqDiff, Option.bind_some, Option.map_some, vcM, h13d, h7d, h3d, v4, v5, v6, v7, hki, hwsi]
            refine callV_ret (rrot_ok wd s.e 21 11 (by decide) (by decide) (by decide)) ?_
            rintro _ wq ⟨rfl, hw⟩
            obtain rfl : wd = wq := hw.symm
            simp (disch := first | omega | assumption | rfl | (simp only [vcS] <;> omega) | fail) only [↓vcL1, ptS2_eq, ↓vcA, vcB, ↓reduceIte, Nat.reduceEqDiff, Option.bind_some, Option.map_some, vcM, h13d, h7d, h3d, v4, v5, v6, v7, hki, hwsi, U32_xor]
            refine callV_ret (rrot_ok wd s.e 7 25 (by decide) (by decide) (by decide)) ?_
            rintro _ wq ⟨rfl, hw⟩
            obtain rfl : wd = wq := hw.symm
            simp (disch := first | omega | assumption | rfl | (simp only [vcS] <;> omega) | fail) only [ptS1_eq, ↓vcA, vcB, ↓reduceIte, Nat.reduceEqDiff, Option.bind_some, vcM, h13d, h7d, h3d, v4, v5, v6, v7, hki, hwsi, U32_xor, U32_add]
            first | (simp (disch := first | omega | assumption | rfl | (simp only [vcS] <;> omega) | fail) only [↓vcL2, ptS1_eq, ↓vcA, vcB, ↓vcD, vcE, ↓reduceIte, Nat.reduceEqDiff, Nat.reduceAdd, Nat.reduceMul, Nat.reduceLeDiff, Int.reduceLE, Int.reduceLT, Int.reduceEq, Int.reduceToNat, Int.reduceAdd, Int.reduceSub, Int.reduceMul, Int.reduceNeg, reduceCtorEq, Option.bind_some, Option.map_some, List.length_cons, List.length_nil, vcM, List.getElem?_toArray, List.getElem?_cons_zero, List.getElem?_cons_succ, h13d, h7d, h3d, v4, v5, v6, v7, hki, hwsi, U32_xor, U32_add]) | skip
            have et : t1F s ki xi = s.h + (rotF 6 s.e ^^^ rotF 11 s.e ^^^ rotF 25 s.e) + (s.e &&& s.f ^^^ ~~~s.e &&& s.g) + ki + xi := rfl
            rw [← et]
            have eu : t2F s = (rotF 2 s.a ^^^ rotF 13 s.a ^^^ rotF 22 s.a) + (s.a &&& s.b ^^^ s.a &&& s.c ^^^ s.b &&& s.c) := rfl
            (refine W_at c57_ok ?_; refine ⟨_, rfl, ?_⟩; simp (disch := first | omega | assumption | rfl | (simp only [vcS] <;> omega) | fail) only [↓vcL1, ↓vcA, vcB, ↓reduceIte, Nat.reduceEqDiff, Nat.reduceMul, Int.reduceLE, Int.reduceLT, Int.reduceToNat, Option.bind_some, Option.map_some, vcM, h13d, v0, v1, v2, U32_and, U32_xor])
            have hEd2 : Ext wd wd.drew := (Keep.refl _ wd).drew
            have h13e := hEd2.at h13d (fun h => h)
            have h7e := hEd2.at h7d (fun h => h)
            have hEje := hEjd.ext hEd2
            generalize wd.drew = we at h13e h7e hEje ⊢
            clear hEd2
            refine callV_ret (rrot_ok we s.a 30 2 (by decide) (by decide) (by decide)) ?_
            rintro _ wq ⟨rfl, hw⟩
            obtain rfl : we = wq := hw.symm
            simp (disch := first | omega | assumption | rfl | (simp only [vcS] <;> omega) | fail) only [↓vcL2, ptS1_eq, ↓vcA, vcB, ↓reduceIte, Nat.reduceEqDiff, Option.bind_some, Option.map_some, vcM, h13e, v0, v1, v2]
            refine callV_ret (rrot_ok we s.a 19 13 (by decide) (by decide) (by decide)) ?_
            rintro _ wq ⟨rfl, hw⟩
            obtain rfl : we = wq := hw.symm
            simp (disch := first | omega | assumption | rfl | (simp only [vcS] <;> omega) | fail) only [↓vcL1, ptS2_eq, ↓vcA, vcB, ↓reduceIte, Nat.reduceEqDiff, Option.bind_some, Option.map_some, vcM, h13e, v0, v1, v2, U32_xor]
            refine callV_ret (rrot_ok we s.a 10 22 (by decide) (by decide) (by decide)) ?_
            rintro _ wq ⟨rfl, hw⟩
            obtain rfl : we = wq := hw.symm
            simp (disch := first | omega | assumption | rfl | (simp only [vcS] <;> omega) | fail) only [ptS1_eq, ↓vcA, vcB, ↓reduceIte, Nat.reduceEqDiff, Option.bind_some, vcM, h13e, v0, v1, v2, U32_xor, U32_add]
            rw [← eu]
            unfold rnd at hrs
            generalize t1F s ki xi = tt at hrs ⊢
            generalize t2F s = uu at hrs ⊢
            (refine W_at c57_ok ?_; refine ⟨_, rfl, ?_⟩; simp (disch := first | omega | assumption | rfl | (simp only [vcS] <;> omega) | fail) only [↓ptV_l, ↓vcA, vcB, ↓reduceIte, Nat.reduceEqDiff, Nat.reduceMul, Int.reduceLE, Int.reduceLT, Int.reduceToNat, Option.bind_some, Option.map_some, vcM, h13e, v0, v1, v2, v3, v4, v5, v6, U32_add, U32_cells])
            have e9 : (#[U32 (tt + uu)] ++ (#[U32 s.a] ++ (#[U32 s.b] ++ (#[U32 s.c] ++ (#[U32 (s.d + tt)] ++ (#[U32 s.e] ++ #[U32 s.f, U32 s.g]))))) : Array Value) = wcs (rndN (t + 1) st kL ws).list := by rw [hrs]; exact wcs8_bld _ _ _ _ _ _ _ _
            rw [e9]
            have hsw : (wcs s.list).size = 8 := wcs_size _
            refine ⟨wcs8_size _, wcs_flat _, by rw [hsw]; exact Nat.le_refl _, ?_⟩
            have h13f : (we.putN p13 0 (wcs (rndN (t + 1) st kL ws).list)).heap[p13]? = some (.cells (wcs (rndN (t + 1) st kL ws).list) 83 (0, 0)) := by
              rw [heap_putN_eq h13e, splice_all (by rw [wcs8_size, wcs8_size])]
            have kf : Keep (fun x => x = p13) we (we.putN p13 0 (wcs (rndN (t + 1) st kL ws).list)) := (Keep.refl _ we).putN _ fun _ => rfl
            generalize World.putN _ _ _ _ = wf at h13f kf ⊢
            have h7f := kf.at h7e (by omega)
            (refine W_at c57_ok ?_; refine ⟨_, rfl, ?_⟩; simp (disch := first | omega | assumption | rfl | (simp only [vcS] <;> omega) | fail) only [↓vcA, vcB, ↓reduceIte, Nat.reduceEqDiff, Option.bind_some, hwi])
            (refine W_at c57_ok ?_; refine ⟨_, rfl, ?_⟩; simp (disch := first | omega | assumption | rfl | (simp only [vcS] <;> omega) | fail) only [vcB])
            exact ihC (t + 1) wf (by omega) h13f h7f (hEje.trans kf fun i hi e => by omega)
        exact LC 64 0 wb (by omega) h13 h7b hjb
      have LB : ∀ (k t : Nat) (wz : World), t + k = 64 → 16 ≤ t → wz.heap[p7]? = some (.cells (arrW ws t) 97 (0, 0)) → Ext wj wz → W Try.prog (Ret fun u w' => u = .agg (bv (outF (runN (nb + 1) iv mm))).toArray ∧ Ext w w') 57 33 [(2, .pointer (some ⟨p2, 0, none⟩)), (3, .pointer (some ⟨p3, 0, none⟩)), (4, .pointer (some ⟨p4, 0, none⟩)), (5, mv), (6, .int .i64 ((64 * j : Nat) : Int)), (7, .pointer (some ⟨p7, 0, none⟩)), (10, .int .i64 (t : Nat))] wz := by
        intro k
        induction k with
        | zero =>
          intro t wz ht h16 h7 hEz
          obtain rfl : t = 64 := by omega
          rw [arrW_all ws hws] at h7
          (refine W_at c57_ok ?_; refine ⟨_, rfl, ?_⟩; simp (disch := first | omega | assumption | rfl | (simp only [vcS] <;> omega) | fail) only [↓vcA, vcB, ↓reduceIte, Nat.reduceEqDiff, Int.reduceLT, Option.bind_some, vcM])
          (refine W_at c57_ok ?_; refine ⟨_, rfl, ?_⟩; simp (disch := first | omega | assumption | rfl | (simp only [vcS] <;> omega) | fail) only [↓vcA, vcB, ↓reduceIte, Nat.reduceEqDiff])
          exact restB wz _ h7 hEz
        | succ k ihB =>
          intro t wz ht h16 h7 hEz
          have hlt : ((t : Nat) : Int) < 64 := by omega
          have b1 : 0 ≤ ((t : Nat) : Int) ∧ ((t : Nat) : Int) < 64 := by omega
          have hwi : IntKind.i64.wrap (((t : Nat) : Int) + 1) = ((t + 1 : Nat) : Int) := wrap_i64 (by omega) (by omega)
          have hy := ws_rec blk t h16 (by omega)
          rw [hwsd] at hy
          have hnx : nxtW (ws.take t) = sg1 (ws.getD (t - 2) 0) + ws.getD (t - 7) 0 + sg0 (ws.getD (t - 15) 0) + ws.getD (t - 16) 0 := by
            have hlt : (ws.take t).length = t := by rw [List.length_take]; omega
            have hg : ∀ k, k < t → (ws.take t).getD k 0 = ws.getD k 0 := fun k hk => by simp [List.getD, List.getElem?_take_of_lt hk]
            unfold nxtW
            rw [hlt, hg _ (by omega), hg _ (by omega), hg _ (by omega), hg _ (by omega)]
            ac_rfl
          rw [hnx] at hy
          have s15 : IntKind.i64.wrap (((t : Nat) : Int) - 15) = ((t - 15 : Nat) : Int) := by rw [wrap_i64 (by omega) (by omega)]; omega
          have s2 : IntKind.i64.wrap (((t : Nat) : Int) - 2) = ((t - 2 : Nat) : Int) := by rw [wrap_i64 (by omega) (by omega)]; omega
          have s16 : IntKind.i64.wrap (((t : Nat) : Int) - 16) = ((t - 16 : Nat) : Int) := by rw [wrap_i64 (by omega) (by omega)]; omega
          have s7 : IntKind.i64.wrap (((t : Nat) : Int) - 7) = ((t - 7 : Nat) : Int) := by rw [wrap_i64 (by omega) (by omega)]; omega
          have i15 : 0 ≤ ((t - 15 : Nat) : Int) ∧ ((t - 15 : Nat) : Int) < 64 := by omega
          have i2 : 0 ≤ ((t - 2 : Nat) : Int) ∧ ((t - 2 : Nat) : Int) < 64 := by omega
          have i16 : 0 ≤ ((t - 16 : Nat) : Int) ∧ ((t - 16 : Nat) : Int) < 64 := by omega
          have i7 : 0 ≤ ((t - 7 : Nat) : Int) ∧ ((t - 7 : Nat) : Int) < 64 := by omega
          have a15 := arrW_at ws t (t - 15) hws (by omega) (by omega)
          have a2 := arrW_at ws t (t - 2) hws (by omega) (by omega)
          have a16 := arrW_at ws t (t - 16) hws (by omega) (by omega)
          have a7 := arrW_at ws t (t - 7) hws (by omega) (by omega)
          have hsz := arrW_size ws t hws (by omega)
          generalize ws.getD (t - 15) 0 = x15 at hy a15
          generalize ws.getD (t - 2) 0 = x2 at hy a2
          generalize ws.getD (t - 16) 0 = x16 at hy a16
          generalize ws.getD (t - 7) 0 = x7 at hy a7
          (refine W_at c57_ok ?_; refine ⟨_, rfl, ?_⟩; simp (disch := first | omega | assumption | rfl | (simp only [vcS] <;> omega) | fail) only [↓vcA, vcB, ↓reduceIte, Nat.reduceEqDiff, Option.bind_some, hlt])
          (refine W_at c57_ok ?_; refine ⟨_, rfl, ?_⟩; simp (disch := first | omega | assumption | rfl | (simp only [vcS] <;> omega) | fail) only [↓vcA, vcB, ↓reduceIte, Nat.reduceEqDiff])
          (refine W_at c57_ok ?_; refine ⟨_, rfl, ?_⟩; simp (disch := first | omega | assumption | rfl | (simp only [vcS] <;> omega) | fail) only [↓vcL1, ↓vcA, vcB, ↓reduceIte, Nat.reduceEqDiff, Option.bind_some, Option.map_some, vcM, h7, s15, i15, Int.toNat_natCast, Nat.mul_one, a15, U32_shr3])
          have hEd : Ext wj wz.drew := hEz.drew
          have h7d : wz.drew.heap[p7]? = some (.cells (arrW ws t) 97 (0, 0)) := h7
          generalize wz.drew = wd at hEd h7d ⊢
          refine callV_ret (rrot_ok wd x15 25 7 (by decide) (by decide) (by decide)) ?_
          rintro _ wq ⟨rfl, hw⟩
          obtain rfl : wd = wq := hw.symm
          simp (disch := first | omega | assumption | rfl | (simp only [vcS] <;> omega) | fail) only [↓vcL2, ptS1_eq, ↓vcA, vcB, ↓reduceIte, Nat.reduceEqDiff, Option.bind_some, Option.map_some, vcM, h7d, a15]
          refine callV_ret (rrot_ok wd x15 14 18 (by decide) (by decide) (by decide)) ?_
          rintro _ wq ⟨rfl, hw⟩
          obtain rfl : wd = wq := hw.symm
          simp (disch := first | omega | assumption | rfl | (simp only [vcS] <;> omega) | fail) only [ptS2_eq, ↓vcA, vcB, ↓reduceIte, Nat.reduceEqDiff, Option.bind_some, vcM, h7d, a15, U32_xor]
          first | (simp (disch := first | omega | assumption | rfl | (simp only [vcS] <;> omega) | fail) only [↓vcL1, ptS2_eq, ↓vcA, vcB, ↓vcD, vcE, ↓reduceIte, Nat.reduceEqDiff, Nat.reduceAdd, Nat.reduceMul, Nat.reduceLeDiff, Int.reduceLE, Int.reduceLT, Int.reduceEq, Int.reduceToNat, Int.reduceAdd, Int.reduceSub, Int.reduceMul, Int.reduceNeg, reduceCtorEq, Option.bind_some, Option.map_some, List.length_cons, List.length_nil, vcM, List.getElem?_toArray, List.getElem?_cons_zero, List.getElem?_cons_succ, h7d, a15, U32_xor]) | skip
          have e0 : sg0 x15 = rotF 7 x15 ^^^ rotF 18 x15 ^^^ x15 >>> 3 := rfl
          rw [← e0]
          (refine W_at c57_ok ?_; refine ⟨_, rfl, ?_⟩; simp (disch := first | omega | assumption | rfl | (simp only [vcS] <;> omega) | fail) only [↓vcL1, ↓vcA, vcB, ↓reduceIte, Nat.reduceEqDiff, Option.bind_some, Option.map_some, vcM, h7d, s2, i2, Int.toNat_natCast, Nat.mul_one, a2, U32_shr10])
          have hEe : Ext wj wd.drew := hEd.drew
          have h7e : wd.drew.heap[p7]? = some (.cells (arrW ws t) 97 (0, 0)) := h7d
          generalize wd.drew = we at hEe h7e ⊢
          refine callV_ret (rrot_ok we x2 15 17 (by decide) (by decide) (by decide)) ?_
          rintro _ wq ⟨rfl, hw⟩
          obtain rfl : we = wq := hw.symm
          simp (disch := first | omega | assumption | rfl | (simp only [vcS] <;> omega) | fail) only [↓vcL2, ptS1_eq, ↓vcA, vcB, ↓reduceIte, Nat.reduceEqDiff, Option.bind_some, Option.map_some, vcM, h7e, a2]
          refine callV_ret (rrot_ok we x2 13 19 (by decide) (by decide) (by decide)) ?_
          rintro _ wq ⟨rfl, hw⟩
          obtain rfl : we = wq := hw.symm
          simp (disch := first | omega | assumption | rfl | (simp only [vcS] <;> omega) | fail) only [ptS2_eq, ↓vcA, vcB, ↓reduceIte, Nat.reduceEqDiff, Option.bind_some, vcM, h7e, a2, U32_xor]
          first | (simp (disch := first | omega | assumption | rfl | (simp only [vcS] <;> omega) | fail) only [↓vcL1, ptS2_eq, ↓vcA, vcB, ↓vcD, vcE, ↓reduceIte, Nat.reduceEqDiff, Nat.reduceAdd, Nat.reduceMul, Nat.reduceLeDiff, Int.reduceLE, Int.reduceLT, Int.reduceEq, Int.reduceToNat, Int.reduceAdd, Int.reduceSub, Int.reduceMul, Int.reduceNeg, reduceCtorEq, Option.bind_some, Option.map_some, List.length_cons, List.length_nil, vcM, List.getElem?_toArray, List.getElem?_cons_zero, List.getElem?_cons_succ, h7e, a2, U32_xor]) | skip
          have e1 : sg1 x2 = rotF 17 x2 ^^^ rotF 19 x2 ^^^ x2 >>> 10 := rfl
          rw [← e1]
          (refine W_at c57_ok ?_; refine ⟨_, rfl, ?_⟩; simp (disch := first | omega | assumption | rfl | (simp only [vcS] <;> omega) | fail) only [↓ptV_l, ↓vcA, vcB, ↓reduceIte, Nat.reduceEqDiff, Option.bind_some, vcM, h7e, s7, s16, i7, i16, b1, Int.toNat_natCast, Nat.mul_one, a7, a16, U32_add])
          have hEf : Ext wj we.drew := hEe.drew
          have h7f : we.drew.heap[p7]? = some (.cells (arrW ws t) 97 (0, 0)) := h7e
          generalize we.drew = wf at hEf h7f ⊢
          refine ⟨rfl, wr1_of h7f (by rw [hsz]; omega), ?_⟩
          have h7g : (wf.setCell ⟨p7, t, none⟩ (U32 (sg1 x2 + x7 + sg0 x15 + x16))).heap[p7]? = some (.cells (arrW ws (t + 1)) 97 (0, 0)) := by rw [heap_setCell_eq h7f, arrW_set ws t _ hws (by omega) hy]
          have hEg : Ext wj (wf.setCell ⟨p7, t, none⟩ (U32 (sg1 x2 + x7 + sg0 x15 + x16))) := hEf.trans ((Keep.refl _ wf).setCell (S := fun x => x = p7) _ fun _ => rfl) fun x hx e => by omega
          generalize World.setCell _ _ _ = wg at h7g hEg ⊢
          (refine W_at c57_ok ?_; refine ⟨_, rfl, ?_⟩; simp (disch := first | omega | assumption | rfl | (simp only [vcS] <;> omega) | fail) only [↓vcA, vcB, ↓reduceIte, Nat.reduceEqDiff, Option.bind_some, hwi])
          (refine W_at c57_ok ?_; refine ⟨_, rfl, ?_⟩; simp (disch := first | omega | assumption | rfl | (simp only [vcS] <;> omega) | fail) only [vcB])
          exact ihB (t + 1) wg (by omega) (by omega) h7g hEg
      have LA : ∀ (k t : Nat) (wz : World), t + k = 16 → wz.heap[p7]? = some (.cells (arrW ws t) 97 (0, 0)) → Ext wj wz → W Try.prog (Ret fun u w' => u = .agg (bv (outF (runN (nb + 1) iv mm))).toArray ∧ Ext w w') 57 44 [(2, .pointer (some ⟨p2, 0, none⟩)), (3, .pointer (some ⟨p3, 0, none⟩)), (4, .pointer (some ⟨p4, 0, none⟩)), (5, mv), (6, .int .i64 ((64 * j : Nat) : Int)), (7, .pointer (some ⟨p7, 0, none⟩)), (8, .int .i64 (t : Nat))] wz := by
        intro k
        induction k with
        | zero =>
          intro t wz ht h7 hEz
          obtain rfl : t = 16 := by omega
          (refine W_at c57_ok ?_; refine ⟨_, rfl, ?_⟩; simp (disch := first | omega | assumption | rfl | (simp only [vcS] <;> omega) | fail) only [↓vcA, vcB, ↓reduceIte, Nat.reduceEqDiff, Int.reduceLT, Option.bind_some, vcM])
          (refine W_at c57_ok ?_; refine ⟨_, rfl, ?_⟩; simp (disch := first | omega | assumption | rfl | (simp only [vcS] <;> omega) | fail) only [↓vcA, vcB, ↓reduceIte, Nat.reduceEqDiff])
          (refine W_at c57_ok ?_; refine ⟨_, rfl, ?_⟩; simp (disch := first | omega | assumption | rfl | (simp only [vcS] <;> omega) | fail) only [↓vcA, vcB, ↓reduceIte, Nat.reduceEqDiff])
          exact LB 48 16 wz (by omega) (by omega) h7 hEz
        | succ k ihA =>
          intro t wz ht h7 hEz
          have hlt : ((t : Nat) : Int) < 16 := by omega
          have b1 : 0 ≤ ((t : Nat) : Int) ∧ ((t : Nat) : Int) < 64 := by omega
          have hwt : IntKind.i64.wrap (((t : Nat) : Int) + 1) = ((t + 1 : Nat) : Int) := wrap_i64 (by omega) (by omega)
          have hw4 : IntKind.i64.wrap (4 * ((t : Nat) : Int)) = ((4 * t : Nat) : Int) := by rw [wrap_i64 (by omega) (by omega)]; omega
          have hwa4 : IntKind.i64.wrap (((64 * j : Nat) : Int) + ((4 * t : Nat) : Int)) = ((64 * j + 4 * t : Nat) : Int) := by rw [wrap_i64 (by omega) (by omega)]; omega
          have hdone : ws[t]? = some (accF blk t 4) := by
            have h := ws_16 blk t (by omega)
            rw [hwsd] at h
            rw [h, acc4 blk t fun i hi => ?_]
            have hio : 4 * t + i < blk.length := by omega
            have e2 : blk.getD (4 * t + i) 0 = blk[4 * t + i] := by simp [List.getD, List.getElem?_eq_getElem hio]
            have := hbb _ (List.getElem_mem hio)
            rw [e2]; omega
          have LI : ∀ (m i : Nat) (wz : World), i + m = 4 → wz.heap[p7]? = some (.cells (arrP ws t (accF blk t i)) 97 (0, 0)) → Ext wj wz → W Try.prog (Ret fun u w' => u = .agg (bv (outF (runN (nb + 1) iv mm))).toArray ∧ Ext w w') 57 41 [(2, .pointer (some ⟨p2, 0, none⟩)), (3, .pointer (some ⟨p3, 0, none⟩)), (4, .pointer (some ⟨p4, 0, none⟩)), (5, mv), (6, .int .i64 ((64 * j : Nat) : Int)), (7, .pointer (some ⟨p7, 0, none⟩)), (8, .int .i64 (t : Nat)), (9, .int .i64 (i : Nat))] wz := by
            intro m
            induction m with
            | zero =>
              intro i wz hi h7 hEz
              obtain rfl : i = 4 := by omega
              rw [arrP_done ws t _ hws (by omega) hdone] at h7
              (refine W_at c57_ok ?_; refine ⟨_, rfl, ?_⟩; simp (disch := first | omega | assumption | rfl | (simp only [vcS] <;> omega) | fail) only [↓vcA, vcB, ↓reduceIte, Nat.reduceEqDiff, Int.reduceLT, Option.bind_some, vcM])
              (refine W_at c57_ok ?_; refine ⟨_, rfl, ?_⟩; simp (disch := first | omega | assumption | rfl | (simp only [vcS] <;> omega) | fail) only [↓vcA, vcB, ↓reduceIte, Nat.reduceEqDiff])
              (refine W_at c57_ok ?_; refine ⟨_, rfl, ?_⟩; simp (disch := first | omega | assumption | rfl | (simp only [vcS] <;> omega) | fail) only [↓vcA, vcB, ↓reduceIte, Nat.reduceEqDiff, Option.bind_some, hwt])
              (refine W_at c57_ok ?_; refine ⟨_, rfl, ?_⟩; simp (disch := first | omega | assumption | rfl | (simp only [vcS] <;> omega) | fail) only [vcB])
              exact ihA (t + 1) wz (by omega) h7 hEz
            | succ m ihI =>
              intro i wz hi h7 hEz
              have hlt4 : ((i : Nat) : Int) < 4 := by omega
              have hwi : IntKind.i64.wrap (((i : Nat) : Int) + 1) = ((i + 1 : Nat) : Int) := wrap_i64 (by omega) (by omega)
              have hwb : IntKind.i64.wrap (((64 * j + 4 * t : Nat) : Int) + ((i : Nat) : Int)) = ((64 * j + 4 * t + i : Nat) : Int) := by rw [wrap_i64 (by omega) (by omega)]; omega
              obtain ⟨bb, oo, cc, ex, hc, hrng⟩ := rd_byte (hO.ext hEz).rd hmb (i := 64 * j + 4 * t + i) (by omega)
              rw [show 64 * j + 4 * t + i = 64 * j + (4 * t + i) by omega, ← hbat (4 * t + i) (by omega)] at hc hrng
              have bi : 0 ≤ ((64 * j + (4 * t + i) : Nat) : Int) ∧ ((64 * j + (4 * t + i) : Nat) : Int) < (mm.length : Nat) := by omega
              have hv := b32_of hrng
              have hat := arrP_at ws t (accF blk t i) hws (by omega)
              have hacc : accF blk t i * 256#32 + b32 (blk.getD (4 * t + i) 0) = accF blk t (i + 1) := rfl
              have hsz := arrP_size ws t (accF blk t i) hws (by omega)
              rw [show 64 * j + 4 * t + i = 64 * j + (4 * t + i) by omega] at hwb
              subst ex
              (refine W_at c57_ok ?_; refine ⟨_, rfl, ?_⟩; simp (disch := first | omega | assumption | rfl | (simp only [vcS] <;> omega) | fail) only [↓vcA, vcB, ↓reduceIte, Nat.reduceEqDiff, Option.bind_some, hlt4])
              (refine W_at c57_ok ?_; refine ⟨_, rfl, ?_⟩; simp (disch := first | omega | assumption | rfl | (simp only [vcS] <;> omega) | fail) only [↓vcA, vcB, ↓reduceIte, Nat.reduceEqDiff])
              (refine W_at c57_ok ?_; refine ⟨_, rfl, ?_⟩; simp (disch := first | omega | assumption | rfl | (simp only [vcS] <;> omega) | fail) only [↓ptV_l, ↓vcA, vcB, ↓reduceIte, Nat.reduceEqDiff, Option.bind_some, vcM, h7, b1, hw4, hwa4, hwb, bi, Int.toNat_natCast, Nat.mul_one, hat, U32_mulC, hc, hv, U32_add])
              have hEd : Ext wj wz.drew := hEz.drew
              have h7d : wz.drew.heap[p7]? = some (.cells (arrP ws t (accF blk t i)) 97 (0, 0)) := h7
              generalize wz.drew = wd at hEd h7d ⊢
              refine ⟨rfl, wr1_of h7d (by rw [hsz]; omega), ?_⟩
              rw [hacc]
              have h7g : (wd.setCell ⟨p7, t, none⟩ (U32 (accF blk t (i + 1)))).heap[p7]? = some (.cells (arrP ws t (accF blk t (i + 1))) 97 (0, 0)) := by rw [heap_setCell_eq h7d, arrP_set]
              have hEg : Ext wj (wd.setCell ⟨p7, t, none⟩ (U32 (accF blk t (i + 1)))) := hEd.trans ((Keep.refl _ wd).setCell (S := fun x => x = p7) _ fun _ => rfl) fun x hx e => by omega
              generalize World.setCell _ _ _ = wg at h7g hEg ⊢
              (refine W_at c57_ok ?_; refine ⟨_, rfl, ?_⟩; simp (disch := first | omega | assumption | rfl | (simp only [vcS] <;> omega) | fail) only [↓vcA, vcB, ↓reduceIte, Nat.reduceEqDiff, Option.bind_some, hwi])
              (refine W_at c57_ok ?_; refine ⟨_, rfl, ?_⟩; simp (disch := first | omega | assumption | rfl | (simp only [vcS] <;> omega) | fail) only [vcB])
              exact ihI (i + 1) wg (by omega) h7g hEg
          (refine W_at c57_ok ?_; refine ⟨_, rfl, ?_⟩; simp (disch := first | omega | assumption | rfl | (simp only [vcS] <;> omega) | fail) only [↓vcA, vcB, ↓reduceIte, Nat.reduceEqDiff, Option.bind_some, hlt])
          (refine W_at c57_ok ?_; refine ⟨_, rfl, ?_⟩; simp (disch := first | omega | assumption | rfl | (simp only [vcS] <;> omega) | fail) only [↓vcA, vcB, ↓reduceIte, Nat.reduceEqDiff])
          (refine W_at c57_ok ?_; refine ⟨_, rfl, ?_⟩; simp (disch := first | omega | assumption | rfl | (simp only [vcS] <;> omega) | fail) only [↓vcA, vcB, ↓reduceIte, Nat.reduceEqDiff])
          exact LI 4 0 wz (by omega) (by rw [show accF blk t 0 = 0 from rfl, arrP_0 ws t hws (by omega)]; exact h7) hEz
      (refine W_at c57_ok ?_; refine ⟨_, rfl, ?_⟩; simp (disch := first | omega | assumption | rfl | (simp only [vcS] <;> omega) | fail) only [↓vcA, vcB, ↓reduceIte, Nat.reduceEqDiff])
      exact LA 16 0 wa (by omega) h7 hEa
  exact L (nb + 1) 0 w4 (by omega) hp44 hp24 hp34 hm4 hEw4
end Go.Proofs
namespace Go.Proofs
open Go.Vc
set_option maxRecDepth 10000

set_option maxHeartbeats 800000 in
theorem rdouble_ok (w : World) (x : Value) (bs : List Int) (hx : Rd w x bs) (hb : byt bs) (hl : bs.length ≤ 100000000) :
    Calls Try.prog 32 #[x] w (Ret fun u w' => u = .agg (bv (dblF bs)).toArray ∧ Ext w w') := by
  refine calls_of_cfg c32_ok (Nat.le_of_ble_eq_true rfl) ?_
  simp only [argE_nil, argE_cons, Nat.zero_add]
  (refine W_at c32_ok ?_; refine ⟨_, rfl, ?_⟩; simp (disch := first | omega | assumption | rfl | (simp only [vcS] <;> omega) | fail) only [↓ptV_l, ↓vcA, vcB, ↓reduceIte, reduceCtorEq])
  have hE0 : Ext w (w.alloc (.cells (zc [(32, .int .u8 0)]) 35)) := (Keep.refl _ w).alloc _
  have hp2 : (w.alloc (.cells (zc [(32, .int .u8 0)]) 35)).heap[w.heap.size]? = some (.cells (bv (List.replicate 32 0)).toArray 35 (0, 0)) := heap_new _ _ _ rfl
  generalize World.alloc _ _ = w1 at hE0 hp2 ⊢
  generalize hp2e : w.heap.size = p2 at hp2 ⊢
  (refine W_at c32_ok ?_; refine ⟨_, rfl, ?_⟩; simp (disch := first | omega | assumption | rfl | (simp only [vcS] <;> omega) | fail) only [↓ptV_l, ↓vcA, vcB, ↓reduceIte, Nat.reduceEqDiff, reduceCtorEq, Option.bind_some, Option.map_some])
  refine callV_ret (rsum_ok w1 x bs (hx.ext hE0) hb hl) ?_
  rintro _ w2 ⟨rfl, hE2⟩
  have s32 : (bv (shaF bs)).toArray.size = 32 := by rw [bva_size, shaF_len]
  have hp22 := hE2.at hp2 (fun h => h)
  simp (disch := first | omega | assumption | rfl | (simp only [vcS] <;> omega) | fail) only [↓vcA, vcB, vcM, s32]
  have hE3 : Ext w2 ((w2.alloc (.cells (zc [(32, .int .u8 0)]) 35)).putN w2.heap.size 0 (bv (shaF bs)).toArray) := ((Keep.refl _ w2).alloc _).putN _ (by intro hh; exfalso; omega)
  have hp3 : ((w2.alloc (.cells (zc [(32, .int .u8 0)]) 35)).putN w2.heap.size 0 (bv (shaF bs)).toArray).heap[w2.heap.size]? = some (.cells (bv (shaF bs)).toArray 35 (0, 0)) := by
    rw [heap_putN_eq (heap_new _ _ _ rfl), z32, splice_all (by rw [bva_size, bva_size, shaF_len]; rfl)]
  refine ⟨bv_flat _, ?_⟩
  have hp2l := lt_of_heap hp22
  generalize World.putN _ _ _ _ = w3 at hE3 hp3 ⊢
  generalize w2.heap.size = p3 at hp3 hp2l ⊢
  have hrd := arr_rd hp3 (by rw [shaF_len]; decide)
  rw [shaF_len] at hrd
  have hp23 := hE3.at hp22 (fun h => h)
  (refine W_at c32_ok ?_; refine ⟨_, rfl, ?_⟩; simp (disch := first | omega | assumption | rfl | (simp only [vcS] <;> omega) | fail) only [↓ptV_l, ↓vcA, vcB, ↓reduceIte, Nat.reduceEqDiff, Option.bind_some, Option.map_some, Nat.sub_zero])
  refine callV_ret (rsum_ok w3 _ (shaF bs) hrd (shaF_byt bs) (by rw [shaF_len]; omega)) ?_
  rintro _ w4 ⟨rfl, hE4⟩
  have s322 : (bv (shaF (shaF bs))).toArray.size = 32 := by rw [bva_size, shaF_len]
  have hp24 := hE4.at hp23 (fun h => h)
  have hok : okO (some (.cells (bv (List.replicate 32 0)).toArray 35 (0, 0))) 0 32 = True := by simp only [okO, bva_size, List.length_replicate]; simp
  simp (disch := first | omega | assumption | rfl | (simp only [vcS] <;> omega) | fail) only [↓vcA, vcB, vcM, s322, hp24, hok]
  have k5 : Keep (fun y => y = p2) w4 (w4.putN p2 0 (bv (shaF (shaF bs))).toArray) := (Keep.refl _ w4).putN _ fun _ => rfl
  have hp25 : (w4.putN p2 0 (bv (shaF (shaF bs))).toArray).heap[p2]? = some (.cells (bv (shaF (shaF bs))).toArray 35 (0, 0)) := by
    rw [heap_putN_eq hp24, splice_all (by rw [bva_size, bva_size, shaF_len]; rfl)]
  refine ⟨bv_flat _, ?_⟩
  generalize World.putN _ _ _ _ = w5 at k5 hp25 ⊢
  have hr32 : rdO (some (.cells (bv (shaF (shaF bs))).toArray 35 (0, 0))) 0 32 = some (bv (shaF (shaF bs))).toArray := rdO_all _ _ _ _ s322
  (refine W_at c32_ok ?_; refine ⟨_, rfl, ?_⟩; simp (disch := first | omega | assumption | rfl | (simp only [vcS] <;> omega) | fail) only [↓vcA, vcB, ↓reduceIte, Option.bind_some, Option.map_some, vcM, Ret_returned, hp25, hr32])
  exact ⟨rfl, (((hE0.ext hE2).ext hE3).ext hE4).trans k5 fun i hi e => by omega⟩
end Go.Proofs
namespace Go.Proofs
open Go.Vc
set_option maxRecDepth 10000

theorem look_mem : ∀ {e : Env} {t : Nat} {v : Value}, Vc.look e t = some v → (t, v) ∈ e
  | [], _, _, h => by simp [Vc.look] at h
  | (s, u) :: e, t, v, h => by
    simp only [Vc.look] at h
    split at h
    · rename_i hs; subst hs; cases h; exact List.mem_cons_self
    · exact List.mem_cons_of_mem _ (look_mem h)
/-- What is known of more slots is known of fewer. -/
theorem W_env {P : Program} {R : Ending → World → Prop} {f : FuncId} {l : Nat} {e e' : Env} {w : World} (h : W P R f l e w) (hs : ∀ p ∈ e, Vc.look e' p.1 = some p.2) : W P R f l e' w :=
  fun n en E hc a ha => h n en E hc a ⟨ha.size, ha.nodef, fun t v hv => ha.val t v (hs _ (look_mem hv))⟩
theorem in_cells {w0 wz : World} {bb o i : Nat} {x : TxI} {sv wv : Value} (hx : x.prev.length = 32) (hr0 : rdO w0.heap[bb]? (o + i * 36) 36 = some (iC x sv wv)) (hz : Ext w0 wz) :
    rdO wz.heap[bb]? (o + i * 36) 33 = some (pC x.prev x.idx) ∧ cellO wz.heap[bb]? (o + i * 36 + 34) = some (.int .u32 x.seq) ∧ cellO wz.heap[bb]? (o + i * 36 + 33) = some sv ∧ cellO wz.heap[bb]? (o + i * 36 + 35) = some wv := by
  have hr := rdO_ext' hz hr0
  have s36 := iC_size hx sv wv
  refine ⟨?_, by rw [rdO_cell hr (by omega), iC_34 hx], by rw [rdO_cell hr (by omega), iC_33 hx], by rw [rdO_cell hr (by omega), iC_35 hx]⟩
  cases hg : wz.heap[bb]? with
  | none => rw [hg] at hr; cases hr
  | some ob =>
    rw [hg] at hr
    cases ob with
    | cells cur T fz =>
      simp only [rdO] at hr ⊢
      split at hr
      · rw [if_pos (by omega)]
        have e := Option.some.inj hr
        have e2 : cur.extract (o + i * 36) (o + i * 36 + 33) = (cur.extract (o + i * 36) (o + i * 36 + 36)).extract 0 33 := by
          rw [Array.extract_extract]; congr 1; omega
        rw [e2, e, iC_pC hx]
      · cases hr
    | _ => cases hr
end Go.Proofs
namespace Go.Proofs
open Go.Vc
set_option maxRecDepth 10000

set_option maxHeartbeats 1600000 in
theorem rsame_ok (w : World) (x y : Value) (ps : List (List Int)) (hx : RowR w x ps) (hy : RowR w y ps) (hb : ∀ p ∈ ps, byt p) (hl : ps.length ≤ 140737488355328) :
    Calls Try.prog 35 #[x, y] w (Ret fun u w' => u = .bool true ∧ Ext w w') := by
  refine calls_of_cfg c35_ok (Nat.le_of_ble_eq_true rfl) ?_
  simp only [argE_nil, argE_cons, Nat.reduceAdd, Nat.zero_add]
  have hxl := hx.len
  have hyl := hy.len
  (refine W_at c35_ok ?_; refine ⟨_, rfl, ?_⟩; simp (disch := first | omega | assumption | rfl | (simp only [vcS] <;> omega) | fail) only [↓vcA, vcB, ↓reduceIte, Nat.reduceEqDiff, reduceCtorEq])
  (refine W_at c35_ok ?_; refine ⟨_, rfl, ?_⟩; simp (disch := first | omega | assumption | rfl | (simp only [vcS] <;> omega) | fail) only [↓vcA, vcB, ↓reduceIte, Nat.reduceEqDiff, reduceCtorEq, Option.bind_some, hxl, hyl])
  (refine W_at c35_ok ?_; refine ⟨_, rfl, ?_⟩; simp (disch := first | omega | assumption | rfl | (simp only [vcS] <;> omega) | fail) only [↓vcA, vcB, ↓reduceIte, Nat.reduceEqDiff, reduceCtorEq])
  (refine W_at c35_ok ?_; refine ⟨_, rfl, ?_⟩; simp (disch := first | omega | assumption | rfl | (simp only [vcS] <;> omega) | fail) only [↓vcA, vcB, ↓reduceIte, Nat.reduceEqDiff, reduceCtorEq])
  have L : ∀ (k i : Nat) (wj : World) (tl : Env), i + k = ps.length → Ext w wj → W Try.prog (Ret fun u w' => u = .bool true ∧ Ext w w') 35 10 ((0, x) :: (1, y) :: (5, .int .i64 (i : Nat)) :: tl) wj := by
    intro k
    induction k with
    | zero =>
      intro i wj tl hi hE
      have hno : ¬ ((i : Nat) : Int) < (ps.length : Nat) := by omega
      (refine W_at c35_ok ?_; refine ⟨_, rfl, ?_⟩; simp (disch := first | omega | assumption | rfl | (simp only [vcS] <;> omega) | fail) only [↓vcA, vcB, ↓reduceIte, Nat.reduceEqDiff, reduceCtorEq, Option.bind_some, hxl, hno])
      (refine W_at c35_ok ?_; refine ⟨_, rfl, ?_⟩; simp (disch := first | omega | assumption | rfl | (simp only [vcS] <;> omega) | fail) only [↓vcA, vcB, ↓reduceIte, Nat.reduceEqDiff, reduceCtorEq])
      (refine W_at c35_ok ?_; refine ⟨_, rfl, ?_⟩; simp (disch := first | omega | assumption | rfl | (simp only [vcS] <;> omega) | fail) only [↓vcA, vcB, ↓reduceIte])
      (refine W_at c35_ok ?_; refine ⟨_, rfl, ?_⟩; simp (disch := first | omega | assumption | rfl | (simp only [vcS] <;> omega) | fail) only [↓vcA, vcB, ↓reduceIte, Option.bind_some, Option.map_some, Ret_returned])
      exact hE
    | succ k ih =>
      intro i wj tl hi hE
      have hil : i < ps.length := by omega
      have hlt : ((i : Nat) : Int) < (ps.length : Nat) := by omega
      have b1 : 0 ≤ ((i : Nat) : Int) ∧ ((i : Nat) : Int) < (ps.length : Nat) := by omega
      have hwi : IntKind.i64.wrap (((i : Nat) : Int) + 1) = ((i + 1 : Nat) : Int) := wrap_i64 (by omega) (by omega)
      obtain ⟨bx, ox, cx, vx, ex, hvx, hrx⟩ := (hx.ext hE).at hil
      obtain ⟨by', oy, cy, vy, ey, hvy, hry⟩ := (hy.ext hE).at hil
      have hEd : Ext wj wj.drew := (Keep.refl _ wj).drew
      have hbp := hb _ (List.getElem_mem hil)
      have hvyd := cell_ext hvy hEd
      have hvxd := cell_ext hvx hEd
      (refine W_at c35_ok ?_; refine ⟨_, rfl, ?_⟩; simp (disch := first | omega | assumption | rfl | (simp only [vcS] <;> omega) | fail) only [↓vcA, vcB, ↓reduceIte, Nat.reduceEqDiff, reduceCtorEq, Option.bind_some, hxl, hlt])
      (refine W_at c35_ok ?_; refine ⟨_, rfl, ?_⟩; simp (disch := first | omega | assumption | rfl | (simp only [vcS] <;> omega) | fail) only [↓vcA, vcB, ↓reduceIte, Nat.reduceEqDiff, reduceCtorEq])
      (refine W_at c35_ok ?_; refine ⟨_, rfl, ?_⟩; simp (disch := first | omega | assumption | rfl | (simp only [vcS] <;> omega) | fail) only [↓ptV_l, ↓vcA, vcB, ↓reduceIte, Nat.reduceEqDiff, reduceCtorEq, Option.bind_some, Option.map_some, vcM, ex, ey, b1, Int.toNat_natCast, Nat.mul_one, hvx, hvy])
      refine callV_ret (equal_ok wj.drew vx vy _ _ (hrx.ext hEd) (hry.ext hEd) hbp hbp) ?_
      rintro _ wk ⟨rfl, hwk⟩
      rw [hwk]
      rw [decide_eq_true (rfl : ps[i] = ps[i])]
      first | (simp (disch := first | omega | assumption | rfl | (simp only [vcS] <;> omega) | fail) only [↓vcA, vcB]) | skip
      (refine W_at c35_ok ?_; refine ⟨_, rfl, ?_⟩; simp (disch := first | omega | assumption | rfl | (simp only [vcS] <;> omega) | fail) only [↓vcA, vcB, ↓reduceIte, Nat.reduceEqDiff, reduceCtorEq])
      (refine W_at c35_ok ?_; refine ⟨_, rfl, ?_⟩; simp (disch := first | omega | assumption | rfl | (simp only [vcS] <;> omega) | fail) only [↓vcA, vcB, ↓reduceIte, Nat.reduceEqDiff, reduceCtorEq, Option.bind_some, hwi])
      (refine W_at c35_ok ?_; refine ⟨_, rfl, ?_⟩; simp (disch := first | omega | assumption | rfl | (simp only [vcS] <;> omega) | fail) only [vcB])
      rw [← ex, ← ey]
      exact ih (i + 1) _ _ (by omega) (hE.ext hEd)
  exact L ps.length 0 w _ (by omega) (Keep.refl _ w)
theorem conf_pC {prev : List Int} (idx : Int) (h : prev.length = 32) : conf (skR [(32, .i .u8), (1, .i .u32)]) (pC prev idx).toList = true := by
  have h1 := conf_u8 prev
  rw [h] at h1
  have app : ∀ (l : List SK) (vs : List Value) (s : SK) (v : Value), conf l vs = true → s.ok v = true → conf (l ++ [s]) (vs ++ [v]) = true := by
    intro l
    induction l with
    | nil =>
      intro vs s v h1 h2
      cases vs with
      | nil => simp [conf, h2]
      | cons x vs => simp [conf] at h1
    | cons s0 l ih =>
      intro vs s v h1 h2
      cases vs with
      | nil => simp [conf] at h1
      | cons x vs =>
        simp only [conf, Bool.and_eq_true] at h1
        simp only [List.cons_append, conf, Bool.and_eq_true]
        exact ⟨h1.1, ih vs s v h1.2 h2⟩
  have := app _ _ (.i .u32) (.int .u32 idx) h1 (by simp [SK.ok])
  simpa [skR, pC] using this
theorem eqA_pC {prev : List Int} (idx : Int) (h : prev.length = 32) : eqAR true (skR [(32, .i .u8), (1, .i .u32)]) (.agg (pC prev idx)) (.agg (pC prev idx)) = some (.bool false) := by
  rw [eqA_a, if_pos ⟨conf_pC idx h, conf_pC idx h⟩, eqc_self]; rfl
set_option maxHeartbeats 6400000 in
theorem same09_ok (w : World) (iv ov iv' ov' : Value) (t : TxV) (h1 : TxR w iv ov t) (h2 : TxR w iv' ov' t) (hok : t.Ok) (hsz : t.Sz) :
    Calls Try.prog 15 #[.agg (txC t iv ov), .agg (txC t iv' ov')] w (Ret fun u w' => u = .bool true ∧ Ext w w') := by
  refine calls_of_cfg c15_ok (Nat.le_of_ble_eq_true rfl) ?_
  simp only [argE_nil, argE_cons, Nat.reduceAdd, Nat.zero_add]
  have hfx := txC_flat h1
  have hfy := txC_flat h2
  have hcx : (Value.agg (txC t iv ov)).cells = txC t iv ov := rfl
  have hcy : (Value.agg (txC t iv' ov')).cells = txC t iv' ov' := rfl
  have hzx := txC_sz t iv ov
  have hzy := txC_sz t iv' ov'
  (refine W_at c15_ok ?_; refine ⟨_, rfl, ?_⟩; simp (disch := first | omega | assumption | rfl | (simp only [vcS] <;> omega) | fail) only [↓ptV_l, ↓vcA, vcB, ↓reduceIte, Nat.reduceEqDiff, reduceCtorEq, vcM, hcx, hcy])
  have hE1 : Ext w (w.alloc (.cells (txC t iv ov) 26)) := (Keep.refl _ w).alloc _
  have c2 : (w.alloc (.cells (txC t iv ov) 26)).heap[w.heap.size]? = some (.cells (txC t iv ov) 26 (0, 0)) := heap_new _ _ _ rfl
  have s1 : (w.alloc (.cells (txC t iv ov) 26)).heap.size = w.heap.size + 1 := size_alloc _ _
  generalize World.alloc w _ = w1 at hE1 c2 s1 ⊢
  have hE2 : Ext w1 (w1.alloc (.cells (txC t iv' ov') 26)) := (Keep.refl _ w1).alloc _
  have c3 : (w1.alloc (.cells (txC t iv' ov') 26)).heap[w.heap.size + 1]? = some (.cells (txC t iv' ov') 26 (0, 0)) := heap_new _ _ _ s1.symm
  generalize World.alloc w1 _ = w2 at hE2 c3 ⊢
  have c2 := hE2.at c2 (fun h => h)
  have hE := hE1.ext hE2
  have h1 := h1.ext hE
  have h2 := h2.ext hE
  clear hE1 hE2 s1
  generalize w.heap.size + 1 = p3 at c3 ⊢
  generalize w.heap.size = p2 at c2 ⊢
  have x0 : (txC t iv ov)[0]? = some (.int .i32 t.ver) := rfl
  have x1 : (txC t iv ov)[1]? = some iv := rfl
  have x2 : (txC t iv ov)[2]? = some ov := rfl
  have x3 : (txC t iv ov)[3]? = some (.int .u32 t.lock) := rfl
  have y0 : (txC t iv' ov')[0]? = some (.int .i32 t.ver) := rfl
  have y1 : (txC t iv' ov')[1]? = some iv' := rfl
  have y2 : (txC t iv' ov')[2]? = some ov' := rfl
  have y3 : (txC t iv' ov')[3]? = some (.int .u32 t.lock) := rfl
  have li := ListR.len h1.ins
  have li' := ListR.len h2.ins
  have lo := ListR.len h1.outs
  have lo' := ListR.len h2.outs
  have e1 : decide (¬ t.ver = t.ver) = false := by simp
  have e2 : decide (¬ t.lock = t.lock) = false := by simp
  have e3 : decide (¬ (t.ins.length : Int) = t.ins.length) = false := by simp
  have e4 : decide (¬ (t.outs.length : Int) = t.outs.length) = false := by simp
  (refine W_at c15_ok ?_; refine ⟨_, rfl, ?_⟩; simp (disch := first | omega | assumption | rfl | (simp only [vcS] <;> omega) | fail) only [↓vcA, vcB, ↓reduceIte, Nat.reduceEqDiff, Option.bind_some, vcM, c2, c3, x0, x1, x2, x3, y0, y1, y2, y3, li, li', lo, lo'])
  (refine W_at c15_ok ?_; refine ⟨_, rfl, ?_⟩; simp (disch := first | omega | assumption | rfl | (simp only [vcS] <;> omega) | fail) only [↓vcA, vcB, ↓reduceIte, Nat.reduceEqDiff])
  (refine W_at c15_ok ?_; refine ⟨_, rfl, ?_⟩; simp (disch := first | omega | assumption | rfl | (simp only [vcS] <;> omega) | fail) only [↓vcA, vcB, ↓reduceIte, Nat.reduceEqDiff])
  clear e1 e2 e3 e4 hfx hfy hcx hcy hzx hzy x0 y0 x3 y3
  have hln := hsz.ins
  have hlo := hsz.outs
  -- the outputs
  have L2 : ∀ (k i : Nat) (wj : World) (tl : Env), i + k = t.outs.length → Ext w2 wj → W Try.prog (Ret fun u w' => u = .bool true ∧ Ext w w') 15 10 ((2, .pointer (some ⟨p2, 0, none⟩)) :: (3, .pointer (some ⟨p3, 0, none⟩)) :: (8, .int .i64 (i : Nat)) :: tl) wj := by
    intro k
    induction k with
    | zero =>
      intro i wj tl hi hj
      have hno : ¬ ((i : Nat) : Int) < (t.outs.length : Nat) := by omega
      have c2j := hj.at c2 (fun h => h)
      (refine W_at c15_ok ?_; refine ⟨_, rfl, ?_⟩; simp (disch := first | omega | assumption | rfl | (simp only [vcS] <;> omega) | fail) only [↓vcA, vcB, ↓reduceIte, Nat.reduceEqDiff, Option.bind_some, vcM, c2j, x2, lo, hno])
      (refine W_at c15_ok ?_; refine ⟨_, rfl, ?_⟩; simp (disch := first | omega | assumption | rfl | (simp only [vcS] <;> omega) | fail) only [↓vcA, vcB, ↓reduceIte, Nat.reduceEqDiff])
      (refine W_at c15_ok ?_; refine ⟨_, rfl, ?_⟩; simp (disch := first | omega | assumption | rfl | (simp only [vcS] <;> omega) | fail) only [↓vcA, vcB, ↓reduceIte])
      (refine W_at c15_ok ?_; refine ⟨_, rfl, ?_⟩; simp (disch := first | omega | assumption | rfl | (simp only [vcS] <;> omega) | fail) only [↓vcA, vcB, ↓reduceIte, Option.bind_some, Option.map_some, Ret_returned])
      exact hE.ext hj
    | succ k ih =>
      intro i wj tl hi hj
      have hil : i < t.outs.length := by omega
      have hlt : ((i : Nat) : Int) < (t.outs.length : Nat) := by omega
      have b1 : 0 ≤ ((i : Nat) : Int) ∧ ((i : Nat) : Int) < (t.outs.length : Nat) := by omega
      have hwi : IntKind.i64.wrap (((i : Nat) : Int) + 1) = ((i + 1 : Nat) : Int) := wrap_i64 (by omega) (by omega)
      have c2j := hj.at c2 (fun h => h)
      have c3j := hj.at c3 (fun h => h)
      (refine W_at c15_ok ?_; refine ⟨_, rfl, ?_⟩; simp (disch := first | omega | assumption | rfl | (simp only [vcS] <;> omega) | fail) only [↓vcA, vcB, ↓reduceIte, Nat.reduceEqDiff, Option.bind_some, vcM, c2j, x2, lo, hlt])
      (refine W_at c15_ok ?_; refine ⟨_, rfl, ?_⟩; simp (disch := first | omega | assumption | rfl | (simp only [vcS] <;> omega) | fail) only [↓vcA, vcB, ↓reduceIte, Nat.reduceEqDiff])
      obtain ⟨bx, ox, cx, cs, ex, hrx, _, sx, rfl, hsx⟩ := h1.outs.at hil
      obtain ⟨by', oy, cy, ds, ey, hry, _, sy, rfl, hsy⟩ := h2.outs.at hil
      have hy := hok.outs _ (List.getElem_mem hil)
      generalize t.outs[i] = y at hrx hsx hry hsy hy
      have hEd : Ext wj wj.drew := (Keep.refl _ wj).drew
      have hjd := hj.ext hEd
      have x2' : (txC t iv ov)[2]? = some (.slice (some ⟨bx, ox, none⟩) t.outs.length cx) := by rw [x2, ex]
      have y2' : (txC t iv' ov')[2]? = some (.slice (some ⟨by', oy, none⟩) t.outs.length cy) := by rw [y2, ey]
      have hx0 : cellO wj.heap[bx]? (ox + i * 2) = some (.int .i64 y.val) := by have := rdO_cell (rdO_ext' hj hrx) (j := 0) (by omega); rw [Nat.add_zero] at this; rw [this]; rfl
      have hx1 : cellO wj.heap[bx]? (ox + i * 2 + 1) = some sx := by rw [rdO_cell (rdO_ext' hj hrx) (by omega)]; rfl
      have hy0 : cellO wj.heap[by']? (oy + i * 2) = some (.int .i64 y.val) := by have := rdO_cell (rdO_ext' hj hry) (j := 0) (by omega); rw [Nat.add_zero] at this; rw [this]; rfl
      have hy1 : cellO wj.heap[by']? (oy + i * 2 + 1) = some sy := by rw [rdO_cell (rdO_ext' hj hry) (by omega)]; rfl
      (refine W_at c15_ok ?_; refine ⟨_, rfl, ?_⟩; simp (disch := first | omega | assumption | rfl | (simp only [vcS] <;> omega) | fail) only [↓ptV_l, ↓vcA, vcB, ↓reduceIte, Nat.reduceEqDiff, Option.bind_some, Option.map_some, vcM, c2j, c3j, x2', y2', b1, Int.toNat_natCast, hx0, hx1, hy0, hy1])
      refine callV_ret (equal_ok wj.drew sx sy _ _ (hsx.ext hjd) (hsy.ext hjd) hy.script hy.script) ?_
      rintro _ wk ⟨rfl, hwk⟩
      rw [hwk]
      rw [decide_eq_true (rfl : y.script = y.script)]
      first | (simp (disch := first | omega | assumption | rfl | (simp only [vcS] <;> omega) | fail) only [↓vcA, vcB]) | skip
      (refine W_at c15_ok ?_; refine ⟨_, rfl, ?_⟩; simp (disch := first | omega | assumption | rfl | (simp only [vcS] <;> omega) | fail) only [↓vcA, vcB, ↓reduceIte, Nat.reduceEqDiff])
      (refine W_at c15_ok ?_; refine ⟨_, rfl, ?_⟩; simp (disch := first | omega | assumption | rfl | (simp only [vcS] <;> omega) | fail) only [↓vcA, vcB, ↓reduceIte, Nat.reduceEqDiff, Option.bind_some, hwi])
      (refine W_at c15_ok ?_; refine ⟨_, rfl, ?_⟩; simp (disch := first | omega | assumption | rfl | (simp only [vcS] <;> omega) | fail) only [vcB])
      exact ih (i + 1) _ _ (by omega) hjd
  -- the inputs
  have L1 : ∀ (k i : Nat) (wj : World) (tl : Env), i + k = t.ins.length → Ext w2 wj → W Try.prog (Ret fun u w' => u = .bool true ∧ Ext w w') 15 21 ((2, .pointer (some ⟨p2, 0, none⟩)) :: (3, .pointer (some ⟨p3, 0, none⟩)) :: (5, .int .i64 (i : Nat)) :: tl) wj := by
    intro k
    induction k with
    | zero =>
      intro i wj tl hi hj
      have hno : ¬ ((i : Nat) : Int) < (t.ins.length : Nat) := by omega
      have c2j := hj.at c2 (fun h => h)
      (refine W_at c15_ok ?_; refine ⟨_, rfl, ?_⟩; simp (disch := first | omega | assumption | rfl | (simp only [vcS] <;> omega) | fail) only [↓vcA, vcB, ↓reduceIte, Nat.reduceEqDiff, Option.bind_some, vcM, c2j, x1, li, hno])
      (refine W_at c15_ok ?_; refine ⟨_, rfl, ?_⟩; simp (disch := first | omega | assumption | rfl | (simp only [vcS] <;> omega) | fail) only [↓vcA, vcB, ↓reduceIte, Nat.reduceEqDiff])
      (refine W_at c15_ok ?_; refine ⟨_, rfl, ?_⟩; simp (disch := first | omega | assumption | rfl | (simp only [vcS] <;> omega) | fail) only [↓vcA, vcB, ↓reduceIte, Nat.reduceEqDiff])
      exact L2 t.outs.length 0 wj _ (by omega) hj
    | succ k ih =>
      intro i wj tl hi hj
      have hil : i < t.ins.length := by omega
      have hlt : ((i : Nat) : Int) < (t.ins.length : Nat) := by omega
      have b1 : 0 ≤ ((i : Nat) : Int) ∧ ((i : Nat) : Int) < (t.ins.length : Nat) := by omega
      have hwi : IntKind.i64.wrap (((i : Nat) : Int) + 1) = ((i + 1 : Nat) : Int) := wrap_i64 (by omega) (by omega)
      have c2j := hj.at c2 (fun h => h)
      (refine W_at c15_ok ?_; refine ⟨_, rfl, ?_⟩; simp (disch := first | omega | assumption | rfl | (simp only [vcS] <;> omega) | fail) only [↓vcA, vcB, ↓reduceIte, Nat.reduceEqDiff, Option.bind_some, vcM, c2j, x1, li, hlt])
      (refine W_at c15_ok ?_; refine ⟨_, rfl, ?_⟩; simp (disch := first | omega | assumption | rfl | (simp only [vcS] <;> omega) | fail) only [↓vcA, vcB, ↓reduceIte, Nat.reduceEqDiff])
      obtain ⟨bx, ox, cx, cs, ex, hrx, _, sx, wx, rfl, hsx, hwx⟩ := h1.ins.at hil
      obtain ⟨by', oy, cy, ds, ey, hry, _, sy, wy, rfl, hsy, hwy⟩ := h2.ins.at hil
      have hy := hok.ins _ (List.getElem_mem hil)
      have hz := hsz.inp _ (List.getElem_mem hil)
      generalize t.ins[i] = y at hrx hsx hwx hry hsy hwy hy hz
      have x1' : (txC t iv ov)[1]? = some (.slice (some ⟨bx, ox, none⟩) t.ins.length cx) := by rw [x1, ex]
      have y1' : (txC t iv' ov')[1]? = some (.slice (some ⟨by', oy, none⟩) t.ins.length cy) := by rw [y1, ey]
      have hpl := hy.len
      have s36 := iC_size hpl sx wx
      have s36' := iC_size hpl sy wy
      have hr1 := rdO_ext' hj hrx
      (refine W_at c15_ok ?_; refine ⟨_, rfl, ?_⟩; simp (disch := first | omega | assumption | rfl | (simp only [vcS] <;> omega) | fail) only [↓ptV_l, ↓vcA, vcB, ↓reduceIte, Nat.reduceEqDiff, Option.bind_some, Option.map_some, vcM, c2j, x1', b1, Int.toNat_natCast, hr1, s36])
      refine ⟨iC_flat hsx.one hwx.one, by simp [zc, runs], ?_⟩
      have put : ∀ (wj : World) (sv wv : Value), Ext wj ((wj.alloc (.cells (zc [(32, .int .u8 0), (1, .int .u32 0), (1, .slice none 0 0), (1, .int .u32 0), (1, .slice none 0 0)]) 50)).putN wj.heap.size 0 (iC y sv wv)) ∧ ((wj.alloc (.cells (zc [(32, .int .u8 0), (1, .int .u32 0), (1, .slice none 0 0), (1, .int .u32 0), (1, .slice none 0 0)]) 50)).putN wj.heap.size 0 (iC y sv wv)).heap[wj.heap.size]? = some (.cells (iC y sv wv) 50 (0, 0)) := fun wj sv wv =>
        ⟨((Keep.refl _ wj).alloc _).putN _ (by intro hh; exfalso; omega), by rw [heap_putN_eq (heap_new _ _ _ rfl), splice_all (by rw [iC_size hpl]; rfl)]⟩
      obtain ⟨hEa, h6⟩ := put wj sx wx
      generalize World.putN _ _ _ _ = wa at hEa h6 ⊢
      generalize wj.heap.size = p6 at h6 ⊢
      have hja := hj.ext hEa
      have c3a := hja.at c3 (fun h => h)
      have hr2 := rdO_ext' hja hry
      (refine W_at c15_ok ?_; refine ⟨_, rfl, ?_⟩; simp (disch := first | omega | assumption | rfl | (simp only [vcS] <;> omega) | fail) only [↓ptV_l, ↓vcA, vcB, ↓reduceIte, Nat.reduceEqDiff, Option.bind_some, Option.map_some, vcM, c3a, y1', b1, Int.toNat_natCast, hr2, s36'])
      refine ⟨iC_flat hsy.one hwy.one, by simp [zc, runs], ?_⟩
      obtain ⟨hEb, h7⟩ := put wa sy wy
      generalize World.putN _ _ _ _ = wb at hEb h7 ⊢
      generalize wa.heap.size = p7 at h7 ⊢
      have hjb := hja.ext hEb
      have h6b := hEb.at h6 (fun h => h)
      have q1 := rd_pC hpl h6b
      have q2 := rd_pC hpl h7
      have qe := eqA_pC y.idx hpl
      have a33 := iC_33 hpl sx wx
      have a34 := iC_34 hpl sx wx
      have a35 := iC_35 hpl sx wx
      have b33 := iC_33 hpl sy wy
      have b34 := iC_34 hpl sy wy
      have b35 := iC_35 hpl sy wy
      rw [h6b] at q1
      rw [h7] at q2
      (refine W_at c15_ok ?_; refine ⟨_, rfl, ?_⟩; simp (disch := first | omega | assumption | rfl | (simp only [vcS] <;> omega) | fail) only [↓vcL1, ↓vcA, vcB, ↓reduceIte, Nat.reduceEqDiff, Option.bind_some, Option.map_some, vcM, h6b, h7, q1, q2, qe, a33, a34, b33, b34])
      refine callV_ret (equal_ok wb sx sy _ _ (hsx.ext hjb) (hsy.ext hjb) hy.script hy.script) ?_
      rintro _ wk ⟨rfl, hwk⟩
      rw [hwk]
      rw [decide_eq_true (rfl : y.script = y.script)]
      simp (disch := first | omega | assumption | rfl | (simp only [vcS] <;> omega) | fail) only [↓vcL2, ptS1_eq, ↓vcA, vcB, ↓reduceIte, Nat.reduceEqDiff, Option.bind_some, Option.map_some, vcM, h6b, h7, a35, b35]
      have hwl := hz.wit
      refine callV_ret (rsame_ok wb wx wy y.wit (hwx.ext hjb) (hwy.ext hjb) hy.wit (by omega)) ?_
      rintro _ wl ⟨rfl, hEl⟩
      first | (simp (disch := first | omega | assumption | rfl | (simp only [vcS] <;> omega) | fail) only [ptS2_eq, ↓vcA, vcB, ↓reduceIte, Nat.reduceEqDiff, Option.bind_some]) | skip
      (refine W_at c15_ok ?_; refine ⟨_, rfl, ?_⟩; simp (disch := first | omega | assumption | rfl | (simp only [vcS] <;> omega) | fail) only [↓vcA, vcB, ↓reduceIte, Nat.reduceEqDiff])
      (refine W_at c15_ok ?_; refine ⟨_, rfl, ?_⟩; simp (disch := first | omega | assumption | rfl | (simp only [vcS] <;> omega) | fail) only [↓vcA, vcB, ↓reduceIte, Nat.reduceEqDiff, Option.bind_some, hwi])
      (refine W_at c15_ok ?_; refine ⟨_, rfl, ?_⟩; simp (disch := first | omega | assumption | rfl | (simp only [vcS] <;> omega) | fail) only [vcB])
      exact ih (i + 1) _ _ (by omega) (hjb.ext hEl)
  exact L1 t.ins.length 0 w2 _ (by omega) (Keep.refl _ w2)
end Go.Proofs
namespace Go.Proofs
open Go.Vc
set_option maxRecDepth 10000

def inA : TxI := ⟨List.replicate 32 0, 0, [], 0, []⟩
set_option maxHeartbeats 3200000 in
theorem awake12_ok (w : World) : Calls Try.prog 7 #[] w (Ret fun u w' => u = .bool true ∧ Ext w w') := by
  refine calls_of_cfg c7_ok (Nat.le_of_ble_eq_true rfl) ?_
  simp only [argE_nil]
  (refine W_at c7_ok ?_; refine ⟨_, rfl, ?_⟩; simp (disch := first | omega | assumption | rfl | (simp only [vcS] <;> omega) | fail) only [↓vcA, vcB])
  have hz : #[] ++ zc [(32, Value.int .u8 0), (1, .int .u32 0), (1, .slice none 0 0), (1, .int .u32 0), (1, .slice none 0 0)] = iC inA (.slice none 0 0) (.slice none 0 0) := rfl
  have hz2 : zc [(32, Value.int .u8 0), (1, .int .u32 0), (1, .slice none 0 0), (1, .int .u32 0), (1, .slice none 0 0)] = iC inA (.slice none 0 0) (.slice none 0 0) := rfl
  have hs36 : (iC inA (.slice none 0 0) (.slice none 0 0)).size = 36 := rfl
  have hz3 : ∀ g, zc [(1, Value.int .i32 0)] ++ (#[Value.slice (some ⟨g, 0, none⟩) 1 1] ++ zc [(1, Value.slice none 0 0), (1, Value.int .u32 0)]) = txC txA (.slice (some ⟨g, 0, none⟩) 1 1) (.slice none 0 0) := fun g => rfl
  have hz4 : ∀ g, (txC txA (.slice (some ⟨g, 0, none⟩) 1 1) (.slice none 0 0)).size = 4 := fun g => rfl
  (refine W_at c7_ok ?_; refine ⟨_, rfl, ?_⟩; simp (disch := first | omega | assumption | rfl | (simp only [vcS] <;> omega) | fail) only [↓ptV_l, ↓vcA, vcB, ↓reduceIte, Nat.reduceEqDiff, Option.bind_some, Option.map_some, List.length_cons, List.length_nil, vcM, hz2, hs36, hz3, hz4])
  have he : ((iC inA (.slice none 0 0) (.slice none 0 0)).toList ++ []).toArray = iC inA (.slice none 0 0) (.slice none 0 0) := by simp
  rw [he]
  refine ⟨by intro y hy; simp only [txC, List.mem_cons, List.not_mem_nil, or_false] at hy; rcases hy with rfl | rfl | rfl | rfl <;> rfl, by decide, ?_⟩
  have hE1 : Ext w (w.alloc (.cells (iC inA (.slice none 0 0) (.slice none 0 0)) 50)) := (Keep.refl _ w).alloc _
  have c2 : (w.alloc (.cells (iC inA (.slice none 0 0) (.slice none 0 0)) 50)).heap[w.heap.size]? = some (.cells (iC inA (.slice none 0 0) (.slice none 0 0)) 50 (0, 0)) := heap_new _ _ _ rfl
  have s1 : (w.alloc (.cells (iC inA (.slice none 0 0) (.slice none 0 0)) 50)).heap.size = w.heap.size + 1 := size_alloc _ _
  generalize World.alloc w _ = w1 at hE1 c2 s1 ⊢
  rw [← s1]
  obtain ⟨hE2, d1⟩ := put_tx (wj := w1) (t := txA) (iv := .slice (some ⟨w.heap.size, 0, none⟩) 1 1) (ov := .slice none 0 0)
  generalize World.putN _ _ _ _ = w2 at hE2 d1 ⊢
  have c22 := hE2.at c2 (fun h => h)
  have hE := hE1.ext hE2
  generalize w1.heap.size = p1 at d1 ⊢
  generalize w.heap.size = g at c22 d1 ⊢
  have hR : TxR w2 (.slice (some ⟨g, 0, none⟩) 1 1) (.slice none 0 0) txA := by
    refine ⟨⟨[iC inA (.slice none 0 0) (.slice none 0 0)], rfl, fun c hc => by simp at hc; subst hc; exact hs36, ?_, ⟨_, _, rfl, Nat.le_refl _⟩, by decide, fun i a b => ?_⟩, ListR.nil _ _ _⟩
    · simp only [rdS, rdN_heap]
      rw [if_neg (by omega), c22, Nat.one_mul, rdO_all _ _ _ _ hs36]
      simp
    · have hi : i = 0 := by simp at a; exact a
      subst hi
      exact ⟨_, _, rfl, Rd.nil w2, RowR.nil w2⟩
  have r4 : rdO (some (.cells (txC txA (.slice (some ⟨g, 0, none⟩) 1 1) (.slice none 0 0)) 26 (0, 0))) 0 4 = some (txC txA (.slice (some ⟨g, 0, none⟩) 1 1) (.slice none 0 0)) := rdO_all _ _ _ _ rfl
  have hbo : #[Value.int .u8 1] ++ zc [(31, .int .u8 0)] = (bv oneD).toArray := rfl
  have s32 : (bv oneD).toArray.size = 32 := rfl
  have lO : oneD.length = 32 := rfl
  have q3 := eqA_self lO
  have q1 : eqAR true (skR [(32, .i .u8)]) (.agg (bv (legG txA 0 [] 1)).toArray) (.agg (bv oneD).toArray) = some (.bool true) := by rw [eqA32 (legG_len _ _ _ _) lO, decide_eq_false legA_1]; rfl
  (refine W_at c7_ok ?_; refine ⟨_, rfl, ?_⟩; simp (disch := first | omega | assumption | rfl | (simp only [vcS] <;> omega) | fail) only [↓vcL1, ↓vcA, vcB, ↓reduceIte, Option.bind_some, Option.map_some, vcM, d1, r4])
  refine callV_ret (legacy2_ok w2 _ _ txA hR txA_lm 0 _ [] (Rd.nil w2) byt_nil (by simp) 3 (by omega) (by omega)) ?_
  rintro _ w3 ⟨rfl, hE3⟩
  rw [legA_3]
  have d13 := hE3.at d1 (fun h => h)
  simp (disch := first | omega | assumption | rfl | (simp only [vcS] <;> omega) | fail) only [↓vcL2, ptS1_eq, ↓vcA, vcB, ↓reduceIte, Nat.reduceEqDiff, Option.bind_some, Option.map_some, vcM, hbo, q3, d13, r4]
  refine callV_ret (legacy2_ok w3 _ _ txA (hR.ext hE3) txA_lm 0 _ [] (Rd.nil w3) byt_nil (by simp) 1 (by omega) (by omega)) ?_
  rintro _ w4 ⟨rfl, hE4⟩
  simp (disch := first | omega | assumption | rfl | (simp only [vcS] <;> omega) | fail) only [↓vcL1, ptS2_eq, ↓vcA, vcB, ↓reduceIte, Nat.reduceEqDiff, Option.bind_some, Option.map_some, vcM, hbo, q1]
  refine callV_ret (known_ok w4 131 (by omega)) ?_
  rintro _ w5 ⟨rfl, hw5⟩
  rw [hw5, show knownF 131 = true from rfl]
  simp (disch := first | omega | assumption | rfl | (simp only [vcS] <;> omega) | fail) only [↓vcL2, ptS1_eq, ↓vcA, vcB, ↓reduceIte, Nat.reduceEqDiff, Option.bind_some, Option.map_some]
  refine callV_ret (known_ok w4 4 (by omega)) ?_
  rintro _ w6 ⟨rfl, hw6⟩
  rw [hw6, show knownF 4 = false from rfl]
  first | (simp (disch := first | omega | assumption | rfl | (simp only [vcS] <;> omega) | fail) only [ptS2_eq, ↓vcA, vcB, ↓reduceIte, Nat.reduceEqDiff, Option.bind_some]) | skip
  (refine W_at c7_ok ?_; refine ⟨_, rfl, ?_⟩; simp (disch := first | omega | assumption | rfl | (simp only [vcS] <;> omega) | fail) only [↓vcA, vcB, ↓reduceIte, Option.bind_some, Option.map_some, Ret_returned])
  exact (hE.ext hE3).ext hE4
end Go.Proofs
namespace Go.Proofs
open Go.Vc
set_option maxRecDepth 10000

/-- An input as it is signed. -/
def sgI (n : Nat) (bs : List Int) (kind : Int) (k : Nat) (x : TxI) : TxI :=
  { prev := x.prev, idx := x.idx, script := if k = n then bs else [], seq := if k ≠ n ∧ (kind % 32 = 2 ∨ kind % 32 = 3) then 0 else x.seq, wit := [] }
def insP (l : List TxI) (n : Nat) (bs : List Int) (kind : Int) : Nat → List TxI
  | 0 => []
  | i + 1 => insP l n bs kind i ++ if i ≠ n ∧ 128 ≤ kind then [] else (l[i]?.map fun x => [sgI n bs kind i x]).getD []
def sgO (n : Nat) (o : Int) (k : Nat) (y : TxO) : List TxO := if o = 2 ∨ o = 3 ∧ n < k then [] else if o = 3 ∧ k < n then [⟨-1, []⟩] else [y]
def outQ (l : List TxO) (n : Nat) (o : Int) : Nat → List TxO
  | 0 => []
  | i + 1 => outQ l n o i ++ (l[i]?.map (sgO n o i)).getD []
theorem sgI_enc (n : Nat) (bs : List Int) (kind : Int) (k : Nat) (x : TxI) : encI (sgI n bs kind k x) = encI (legIn n bs (kind % 32) k x) := by
  unfold sgI legIn
  by_cases h : k = n
  · simp [h, encI]
  · simp [h, encI]
theorem insP_all {l : List TxI} {n : Nat} {bs : List Int} {kind : Int} (h : kind < 128) : ∀ i, i ≤ l.length → (insP l n bs kind i).map encI = ((l.mapIdx (legIn n bs (kind % 32))).take i).map encI
  | 0, _ => by simp [insP]
  | i + 1, hi => by
    rw [insP, if_neg (by omega), List.getElem?_eq_getElem (by omega), List.map_append, insP_all h i (by omega), List.take_add_one, List.map_append]
    congr 1
    rw [List.getElem?_mapIdx, List.getElem?_eq_getElem (by omega)]
    simp [sgI_enc]
theorem insP_one {l : List TxI} {n : Nat} {bs : List Int} {kind : Int} (h : 128 ≤ kind) : ∀ i, i ≤ l.length → insP l n bs kind i = if h : n < i ∧ n < l.length then [sgI n bs kind n l[n]] else []
  | 0, _ => by simp [insP]
  | i + 1, hi => by
    rw [insP, insP_one h i (by omega)]
    by_cases hn : i = n
    · subst hn
      rw [dif_neg (by omega), if_neg (by simp), dif_pos (by omega), List.getElem?_eq_getElem (by omega)]; rfl
    · rw [if_pos ⟨hn, h⟩, List.append_nil]
      by_cases h2 : n < i
      · rw [dif_pos (by omega), dif_pos (by omega)]
      · rw [dif_neg (by omega), dif_neg (by omega)]
theorem insP_enc {t : TxV} {n : Nat} (hn : n < t.ins.length) (bs : List Int) (kind : Int) : (insP t.ins n bs kind t.ins.length).map encI = (insL t n bs kind).map encI := by
  unfold insL
  by_cases h : 128 ≤ kind
  · rw [if_pos h, insP_one h _ (Nat.le_refl _), dif_pos ⟨hn, hn⟩, take1_drop (l := t.ins.mapIdx (legIn n bs (kind % 32))) (by rw [List.length_mapIdx]; exact hn)]
    simp [sgI_enc]
  · rw [if_neg h, insP_all (by omega) _ (Nat.le_refl _), List.take_of_length_le (by simp)]
theorem insP_mem {l : List TxI} {n : Nat} {bs : List Int} {kind : Int} {x : TxI} : ∀ {i : Nat}, x ∈ insP l n bs kind i → ∃ k, ∃ h : k < l.length, x = sgI n bs kind k l[k]
  | 0, h => by cases h
  | i + 1, h => by
    rw [insP] at h
    rcases List.mem_append.1 h with h | h
    · exact insP_mem h
    · split at h
      · cases h
      · by_cases hi : i < l.length
        · rw [List.getElem?_eq_getElem hi] at h
          exact ⟨i, hi, by simpa using h⟩
        · rw [List.getElem?_eq_none (by omega)] at h
          cases h
theorem insP_len {l : List TxI} {n : Nat} {bs : List Int} {kind : Int} : ∀ i, (insP l n bs kind i).length ≤ i
  | 0 => Nat.le_refl _
  | i + 1 => by
    have ih := insP_len (l := l) (n := n) (bs := bs) (kind := kind) i
    rw [insP, List.length_append]
    have : (if i ≠ n ∧ 128 ≤ kind then [] else (l[i]?.map fun x => [sgI n bs kind i x]).getD []).length ≤ 1 := by
      split
      · simp
      · cases l[i]? <;> simp
    omega
theorem outQ_no {l : List TxO} {n : Nat} {o : Int} (h2 : o ≠ 2) (h3 : o ≠ 3) : ∀ i, i ≤ l.length → outQ l n o i = l.take i
  | 0, _ => by simp [outQ]
  | i + 1, hi => by
    rw [outQ, outQ_no h2 h3 i (by omega), List.take_add_one, List.getElem?_eq_getElem (by omega)]
    have : sgO n o i l[i] = [l[i]] := by unfold sgO; rw [if_neg (by rintro (h | h); exact h2 h; exact h3 h.1), if_neg fun h => h3 h.1]
    simp [this]
theorem outQ_2 {l : List TxO} {n : Nat} : ∀ i, outQ l n 2 i = []
  | 0 => rfl
  | i + 1 => by
    rw [outQ, outQ_2 i]
    cases l[i]? with
    | none => rfl
    | some y => simp [sgO]
theorem outQ_3 {l : List TxO} {n : Nat} : ∀ i, i ≤ l.length → outQ l n 3 i = blankTo n (l.take (min i (n + 1)))
  | 0, _ => by simp [outQ, blankTo]
  | i + 1, hi => by
    rw [outQ, outQ_3 i (by omega), List.getElem?_eq_getElem (by omega)]
    simp only [Option.map_some, Option.getD_some]
    by_cases h : n < i
    · have e : sgO n 3 i l[i] = [] := by unfold sgO; rw [if_pos (.inr ⟨rfl, h⟩)]
      rw [e, List.append_nil, Nat.min_eq_right (by omega), Nat.min_eq_right (by omega)]
    · rw [Nat.min_eq_left (by omega), Nat.min_eq_left (by omega), List.take_add_one, List.getElem?_eq_getElem (by omega)]
      have hl : (l.take i).length = i := by rw [List.length_take]; omega
      simp only [blankTo, Option.toList_some, List.mapIdx_append, hl]
      congr 1
      unfold sgO
      by_cases h' : i < n
      · rw [if_neg (by rintro (k | k); cases k; exact h k.2), if_pos ⟨rfl, h'⟩]; simp [h']
      · rw [if_neg (by rintro (k | k); cases k; exact h k.2), if_neg fun k => h' k.2]; simp [h']
theorem outQ_all {t : TxV} {n : Nat} {o : Int} (h : o = 3 → n < t.outs.length) : outQ t.outs n o t.outs.length = outsL t n o := by
  unfold outsL
  by_cases h2 : o = 2
  · subst h2; rw [if_pos rfl, outQ_2]
  · rw [if_neg h2]
    by_cases h3 : o = 3
    · subst h3
      have := h rfl
      rw [if_pos rfl, outQ_3 _ (Nat.le_refl _), Nat.min_eq_right (by omega)]
    · rw [if_neg h3, outQ_no h2 h3 _ (Nat.le_refl _), List.take_length]
theorem outQ_mem {l : List TxO} {n : Nat} {o : Int} {y : TxO} : ∀ {i : Nat}, y ∈ outQ l n o i → y ∈ l ∨ y = ⟨-1, []⟩
  | 0, h => by cases h
  | i + 1, h => by
    rw [outQ] at h
    rcases List.mem_append.1 h with h | h
    · exact outQ_mem h
    · cases hi : l[i]? with
      | none => rw [hi] at h; cases h
      | some z =>
        rw [hi] at h
        simp only [Option.map_some, Option.getD_some, sgO] at h
        split at h
        · cases h
        · split at h
          · exact .inr (by simpa using h)
          · have : y = z := by simpa using h
            rw [this]
            exact .inl (List.mem_of_getElem? hi)
theorem outQ_len {l : List TxO} {n : Nat} {o : Int} : ∀ i, (outQ l n o i).length ≤ i
  | 0 => Nat.le_refl _
  | i + 1 => by
    have ih := outQ_len (l := l) (n := n) (o := o) i
    rw [outQ, List.length_append]
    have : ((l[i]?.map (sgO n o i)).getD []).length ≤ 1 := by
      cases l[i]? with
      | none => simp
      | some z =>
        simp only [Option.map_some, Option.getD_some, sgO]
        split
        · simp
        · split <;> simp
    omega
/-- What the document encodes. -/
def sgT (t : TxV) (n : Nat) (bs : List Int) (kind : Int) : TxV := ⟨t.ver, insP t.ins n bs kind t.ins.length, outQ t.outs n (kind % 32) t.outs.length, t.lock⟩
theorem sgT_enc {t : TxV} {n : Nat} (bs : List Int) {kind : Int} (hn : n < t.ins.length) (h3 : kind % 32 = 3 → n < t.outs.length) (hk : 0 ≤ kind ∧ kind ≤ 255) : dblF (encF (sgT t n bs kind) ++ [kind, 0, 0, 0]) = legG t n bs kind := by
  rw [legG_at bs hn h3, ← lowF_kind hk]
  have e : encF (sgT t n bs kind) = encF { t with ins := insL t n bs kind, outs := outsL t n (kind % 32) } :=
    encF_congr rfl rfl (insP_enc hn bs kind) (by show (outQ t.outs n (kind % 32) t.outs.length).map encO = _; rw [outQ_all h3])
  rw [e]
theorem sgT_ok {t : TxV} {n : Nat} {bs : List Int} {kind : Int} (hL : t.Lm) (hb : byt bs) (hbl : bs.length ≤ 1000) : (sgT t n bs kind).Ok ∧ (sgT t n bs kind).Few 100 1000 := by
  have hi := hL.ins
  have ho := hL.outs
  have l1 := insP_len (l := t.ins) (n := n) (bs := bs) (kind := kind) t.ins.length
  have l2 := outQ_len (l := t.outs) (n := n) (o := kind % 32) t.outs.length
  have h1 : ∀ x ∈ (sgT t n bs kind).ins, x.Ok ∧ x.script.length ≤ 1000 := fun x hx => by
    obtain ⟨k, hk, rfl⟩ := insP_mem hx
    have q := hL.ok.ins _ (List.getElem_mem hk)
    generalize t.ins[k] = x at q
    refine ⟨⟨q.len, q.prev, q.idx, ?_, ?_, fun b hb => (by cases hb)⟩, ?_⟩
    · simp only [sgI]; split
      · exact hb
      · exact byt_nil
    · simp only [sgI]; split
      · omega
      · exact q.seq
    · simp only [sgI]; split
      · exact hbl
      · exact Nat.zero_le _
  have h2 : ∀ y ∈ (sgT t n bs kind).outs, y.Ok ∧ y.script.length ≤ 1000 := fun y hy => by
    rcases outQ_mem hy with hy | rfl
    · exact ⟨hL.ok.outs _ hy, hL.out _ hy⟩
    · exact ⟨⟨by dsimp only; omega, byt_nil⟩, Nat.zero_le _⟩
  exact ⟨⟨hL.ok.ver, fun x hx => (h1 x hx).1, fun y hy => (h2 y hy).1, hL.ok.lock⟩, ⟨by show (insP t.ins n bs kind t.ins.length).length ≤ 100; omega, by show (outQ t.outs n (kind % 32) t.outs.length).length ≤ 100; omega, fun x hx => (h1 x hx).2, fun y hy => (h2 y hy).2⟩⟩
end Go.Proofs
namespace Go.Proofs
open Go.Vc
set_option maxRecDepth 10000

section
variable {wB wj w' : World} {p7 : Nat} {t : TxV} {vx ox : Value} {L : List TxI}
end
/-- An input's parts that are written over. -/
theorem IP.script {w w' : World} {c : Array Value} {x : TxI} {S : Nat → Prop} (h : IP 0 w c x) (hx : x.prev.length = 32) (k : Keep S w w') (hS : ∀ g, S g → ∀ c, w.heap[g]? ≠ some (.cells c 5 (0, 0)) ∧ w.heap[g]? ≠ some (.cells c 27 (0, 0))) {v : Value} {bs : List Int} (hv : B5 w' v bs) : IP 0 w' (c.setIfInBounds 33 v) { x with script := bs } := by
  obtain ⟨sv, wv, rfl, h2, h3⟩ := h
  exact ⟨v, wv, iC_set33 hx sv wv v, hv, h3.keepT k hS⟩
theorem IP.wit {w w' : World} {c : Array Value} {x : TxI} {S : Nat → Prop} (h : IP 0 w c x) (hx : x.prev.length = 32) (k : Keep S w w') (hS : ∀ g, S g → ∀ c, w.heap[g]? ≠ some (.cells c 5 (0, 0)) ∧ w.heap[g]? ≠ some (.cells c 27 (0, 0))) {v : Value} {ps : List (List Int)} (hv : GP 0 w' v ps) : IP 0 w' (c.setIfInBounds 35 v) { x with wit := ps } := by
  obtain ⟨sv, wv, rfl, h2, h3⟩ := h
  exact ⟨sv, v, iC_set35 hx sv wv v, h2.keepT k fun g hg c => (hS g hg c).1, hv⟩
theorem IP.seq {w w' : World} {c : Array Value} {x : TxI} {S : Nat → Prop} (h : IP 0 w c x) (hx : x.prev.length = 32) (k : Keep S w w') (hS : ∀ g, S g → ∀ c, w.heap[g]? ≠ some (.cells c 5 (0, 0)) ∧ w.heap[g]? ≠ some (.cells c 27 (0, 0))) (n : Int) : IP 0 w' (c.setIfInBounds 34 (.int .u32 n)) { x with seq := n } := by
  obtain ⟨sv, wv, rfl, h2, h3⟩ := h
  exact ⟨sv, wv, iC_set34 hx sv wv n, h2.keepT k fun g hg c => (hS g hg c).1, h3.keepT k hS⟩
section
variable {us : List TxI} {n : Nat} {kind : Int}
end
end Go.Proofs
namespace Go.Proofs
open Go.Vc
set_option maxRecDepth 10000

section
variable {wB wj w' : World} {p7 : Nat} {t : TxV} {vx ox : Value} {L : List TxI} {O : List TxO}
end
theorem OG.flat {m : Nat} {w : World} {c : Array Value} {y : TxO} (h : OG m w c y) : flat c := by
  obtain ⟨sv, rfl, h1⟩ := h
  exact oC_flat h1.1.one
theorem OG.kT {m : Nat} (S : Nat → Prop) (w1 w2 : World) (c : Array Value) (y : TxO) (k : Keep S w1 w2) (hS : ∀ g, S g → ∃ c, w1.heap[g]? = some (.cells c 54 (0, 0))) (h : OG m w1 c y) : OG m w2 c y :=
  OG.keepT h k fun g hs c => by obtain ⟨c', hc⟩ := hS g hs; rw [hc]; exact fun e => (by cases e)
end Go.Proofs
