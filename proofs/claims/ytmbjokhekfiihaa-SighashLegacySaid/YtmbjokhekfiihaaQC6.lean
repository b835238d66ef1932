/- 'strongboxlaw12.SighashLegacy' returns true for every input, and the input reads as it did. No condition. -/
import Derived.Test.YtmbjokhekfiihaaQC5
import Derived.Test.YtmbjokhekfiihaaRows
set_option linter.unusedSimpArgs false
set_option linter.unusedVariables false
set_option linter.constructorNameAsVariable false
namespace Go.Proofs
open Go.Vc
set_option maxRecDepth 10000

def cI (wB : World) (_ : Nat) (_ : World) (c : Array Value) (x : TxI) : Prop := InAt wB c x
def cO (wB : World) (_ : Nat) (_ : World) (c : Array Value) (y : TxO) : Prop := OuAt wB c y
structure RL (wB wj : World) (p10 : Nat) (t : TxV) (vx ox : Value) (L : List TxI) (O : List TxO) : Prop where
  ext : Ext wB wj
  c10 : wj.heap[p10]? = some (.cells (txC t vx ox) 26 (0, 0))
  ins : ListN (cI wB) 50 36 wB.heap.size wj vx L
  outs : ListN (cO wB) 54 2 wB.heap.size wj ox O
  l10 : wB.heap.size ≤ p10
section
variable {wB wj w' : World} {p10 : Nat} {t : TxV} {vx ox : Value} {L : List TxI} {O : List TxO}
theorem RL.keep (h : RL wB wj p10 t vx ox L O) (k : Ext wj w') : RL wB w' p10 t vx ox L O :=
  ⟨h.ext.ext k, k.at h.c10 (fun h => h), ListN.keepT h.ins k (fun _ h => h.elim) fun _ _ h => h, ListN.keepT h.outs k (fun _ h => h.elim) fun _ _ h => h, h.l10⟩
theorem RL.app1 (h : RL wB wj p10 t vx ox L O) (k : Keep (blk vx) wj w') {v' : Value} {L' : List TxI} (hv : ListN (cI wB) 50 36 wB.heap.size w' v' L') : v'.oneCell' = true ∧ wr1 w' p10 1 ∧ RL wB (w'.setCell ⟨p10, 1, none⟩ v') p10 t v' ox L' O := by
  have hb : ∀ g, blk vx g → wB.heap.size ≤ g ∧ ∃ c, wj.heap[g]? = some (.cells c 50 (0, 0)) := fun g hg => ListN.blkT h.ins hg
  have c10 := k.at h.c10 fun hs => by obtain ⟨_, c, hc⟩ := hb _ hs; have := h.c10; rw [hc] at this; cases this
  have ho : ListN (cO wB) 54 2 wB.heap.size w' ox O := ListN.keepT h.outs k (fun g hg c e => by obtain ⟨_, c', hc⟩ := hb g hg; rw [hc] at e; cases e) fun _ _ h => h
  have hk : Keep (fun g => g = p10) w' (w'.setCell ⟨p10, 1, none⟩ v') := (Keep.refl _ w').setCell _ fun _ => rfl
  have n50 := ne_T (T' := 50) c10 (by decide)
  have n54 := ne_T (T' := 54) c10 (by decide)
  have l10 := h.l10
  exact ⟨ListN.one hv, wr1_of c10 (by rw [txC_sz]; decide), (h.ext.trans k fun g hg hs => by have := (hb g hs).1; omega).trans hk fun g hg e => by omega, by rw [heap_setCell_eq c10]; rfl,
    ListN.keepT hv hk (fun g hg c => by subst hg; exact n50 c) fun _ _ h => h, ListN.keepT ho hk (fun g hg c => by subst hg; exact n54 c) fun _ _ h => h, h.l10⟩
theorem RL.app2 (h : RL wB wj p10 t vx ox L O) (k : Keep (blk ox) wj w') {v' : Value} {O' : List TxO} (hv : ListN (cO wB) 54 2 wB.heap.size w' v' O') : v'.oneCell' = true ∧ wr1 w' p10 2 ∧ RL wB (w'.setCell ⟨p10, 2, none⟩ v') p10 t vx v' L O' := by
  have hb : ∀ g, blk ox g → wB.heap.size ≤ g ∧ ∃ c, wj.heap[g]? = some (.cells c 54 (0, 0)) := fun g hg => ListN.blkT h.outs hg
  have c10 := k.at h.c10 fun hs => by obtain ⟨_, c, hc⟩ := hb _ hs; have := h.c10; rw [hc] at this; cases this
  have hi : ListN (cI wB) 50 36 wB.heap.size w' vx L := ListN.keepT h.ins k (fun g hg c e => by obtain ⟨_, c', hc⟩ := hb g hg; rw [hc] at e; cases e) fun _ _ h => h
  have hk : Keep (fun g => g = p10) w' (w'.setCell ⟨p10, 2, none⟩ v') := (Keep.refl _ w').setCell _ fun _ => rfl
  have n50 := ne_T (T' := 50) c10 (by decide)
  have n54 := ne_T (T' := 54) c10 (by decide)
  have l10 := h.l10
  exact ⟨ListN.one hv, wr1_of c10 (by rw [txC_sz]; decide), (h.ext.trans k fun g hg hs => by have := (hb g hs).1; omega).trans hk fun g hg e => by omega, by rw [heap_setCell_eq c10]; rfl,
    ListN.keepT hi hk (fun g hg c => by subst hg; exact n50 c) fun _ _ h => h, ListN.keepT hv hk (fun g hg c => by subst hg; exact n54 c) fun _ _ h => h, h.l10⟩
theorem RL.txR (h : RL wB wj p10 t vx ox L O) : TxR wj vx ox ⟨t.ver, L, O, t.lock⟩ := ⟨ListN.toR h.ins fun _ _ k => InAt.ext k h.ext, ListN.toR h.outs fun _ _ k => OuAt.ext k h.ext⟩
end
theorem iC_bld (prev : List Int) (idx seq : Int) : pC prev idx ++ (zc [(1, Value.slice none 0 0)] ++ (#[Value.int .u32 seq] ++ zc [(1, Value.slice none 0 0)])) = iC ⟨prev, idx, [], seq, []⟩ (.slice none 0 0) (.slice none 0 0) := by
  apply Array.ext'
  simp [pC, iC, zc, runs]
set_option maxHeartbeats 6400000 in
theorem rl_ins (Q : Ending → World → Prop) (wB : World) (p4 p8 p10 n : Nat) (t : TxV) (iv ov sx : Value) (bs : List Int) (kind : Int) (h4 : wB.heap[p4]? = some (.cells (txC t iv ov) 26 (0, 0))) (hI : InsR wB iv t.ins) (hok : t.Ok) (hn : t.ins.length ≤ 100) (hx : Rd wB sx bs)
    (done : ∀ wj vx ox tl, RL wB wj p10 t vx ox (insP t.ins n bs kind t.ins.length) [] → W Try.prog Q 13 14 ((1, .int .i64 (n : Nat)) :: (3, .int .u8 kind) :: (4, .pointer (some ⟨p4, 0, none⟩)) :: (8, .pointer (some ⟨p8, 0, none⟩)) :: (9, .int .i64 (kind % 32)) :: (10, .pointer (some ⟨p10, 0, none⟩)) :: tl) wj) :
    ∀ (k i : Nat) (wj : World) (vx ox : Value) (tl : Env), i + k = t.ins.length → RL wB wj p10 t vx ox (insP t.ins n bs kind i) [] →
      W Try.prog Q 13 29 ((1, .int .i64 (n : Nat)) :: (2, sx) :: (3, .int .u8 kind) :: (4, .pointer (some ⟨p4, 0, none⟩)) :: (8, .pointer (some ⟨p8, 0, none⟩)) :: (9, .int .i64 (kind % 32)) :: (10, .pointer (some ⟨p10, 0, none⟩)) :: (11, .int .i64 (i : Nat)) :: tl) wj := by
  have hlI := hI.len
  have t1 : (txC t iv ov)[1]? = some iv := rfl
  intro k
  induction k with
  | zero =>
    intro i wj vx ox tl hi hP
    obtain rfl : i = t.ins.length := by omega
    have hno : ¬ ((t.ins.length : Nat) : Int) < (t.ins.length : Nat) := by omega
    have h4j := hP.ext.at h4 (fun h => h)
    (refine W_at c13_ok ?_; refine ⟨_, rfl, ?_⟩; simp (disch := first | omega | assumption | rfl | (simp only [vcS] <;> omega) | fail) only [↓vcA, vcB, ↓reduceIte, Nat.reduceEqDiff, Option.bind_some, vcM, h4j, t1, hlI, hno])
    (refine W_at c13_ok ?_; refine ⟨_, rfl, ?_⟩; simp (disch := first | omega | assumption | rfl | (simp only [vcS] <;> omega) | fail) only [↓vcA, vcB, ↓reduceIte, Nat.reduceEqDiff])
    refine W_env (done wj vx ox [] hP) ?_
    intro p hp
    simp only [List.mem_cons, List.not_mem_nil, or_false] at hp
    rcases hp with rfl | rfl | rfl | rfl | rfl | rfl <;> rfl
  | succ k ih =>
    intro i wj vx ox tl hi hP
    have hil : i < t.ins.length := by omega
    have hlt : ((i : Nat) : Int) < (t.ins.length : Nat) := by omega
    have b1 : 0 ≤ ((i : Nat) : Int) ∧ ((i : Nat) : Int) < (t.ins.length : Nat) := by omega
    have hwi : IntKind.i64.wrap (((i : Nat) : Int) + 1) = ((i + 1 : Nat) : Int) := wrap_i64 (by omega) (by omega)
    have h4j := hP.ext.at h4 (fun h => h)
    have hil2 := insP_len (l := t.ins) (n := n) (bs := bs) (kind := kind) i
    have next : ∀ wz vx ox tl, RL wB wz p10 t vx ox (insP t.ins n bs kind (i + 1)) [] → W Try.prog Q 13 16 ((1, .int .i64 (n : Nat)) :: (2, sx) :: (3, .int .u8 kind) :: (4, .pointer (some ⟨p4, 0, none⟩)) :: (8, .pointer (some ⟨p8, 0, none⟩)) :: (9, .int .i64 (kind % 32)) :: (10, .pointer (some ⟨p10, 0, none⟩)) :: (11, .int .i64 (i : Nat)) :: tl) wz := by
      intro wz vx ox tl hz
      (refine W_at c13_ok ?_; refine ⟨_, rfl, ?_⟩; simp (disch := first | omega | assumption | rfl | (simp only [vcS] <;> omega) | fail) only [↓vcA, vcB, ↓reduceIte, Nat.reduceEqDiff, Option.bind_some, hwi])
      (refine W_at c13_ok ?_; refine ⟨_, rfl, ?_⟩; simp (disch := first | omega | assumption | rfl | (simp only [vcS] <;> omega) | fail) only [vcB])
      exact ih (i + 1) wz vx ox _ (by omega) hz
    have hstep : insP t.ins n bs kind (i + 1) = insP t.ins n bs kind i ++ if i ≠ n ∧ 128 ≤ kind then [] else [sgI n bs kind i t.ins[i]] := by
      rw [insP, List.getElem?_eq_getElem hil]; rfl
    rw [hstep] at next
    (refine W_at c13_ok ?_; refine ⟨_, rfl, ?_⟩; simp (disch := first | omega | assumption | rfl | (simp only [vcS] <;> omega) | fail) only [↓vcA, vcB, ↓reduceIte, Nat.reduceEqDiff, Option.bind_some, vcM, h4j, t1, hlI, hlt])
    (refine W_at c13_ok ?_; refine ⟨_, rfl, ?_⟩; simp (disch := first | omega | assumption | rfl | (simp only [vcS] <;> omega) | fail) only [↓vcA, vcB, ↓reduceIte, Nat.reduceEqDiff])
    obtain ⟨bb, o, c, cs, ev, hr0, hcs, sv, wv, rfl, hsvW, hwvW⟩ := hI.at hil
    have hxo := hok.ins _ (List.getElem_mem hil)
    generalize t.ins[i] = x at hxo next hr0 hsvW hwvW
    have hcel : ∀ wz, Ext wB wz → _ := fun wz hz => in_cells hxo.len hr0 hz
    have t1' : (txC t iv ov)[1]? = some (.slice (some ⟨bb, o, none⟩) t.ins.length c) := by rw [t1, ev]
    obtain ⟨q1, q2, _, _⟩ := hcel wj hP.ext
    have hEd : Ext wj wj.drew := (Keep.refl _ wj).drew
    have hEa : Ext wj.drew (wj.drew.alloc (.cells (zc [(32, .int .u8 0), (1, .int .u32 0), (1, .slice none 0 0), (1, .int .u32 0), (1, .slice none 0 0)]) 50)) := (Keep.refl _ wj.drew).alloc _
    have hEda := hP.ext.ext (hEd.ext hEa)
    have h4a := hEda.at h4 (fun h => h)
    obtain ⟨r1, r2, _, _⟩ := hcel _ hEda
    have hp33 := pC_size hxo.len x.idx
    have hib := iC_bld x.prev x.idx x.seq
    have hs36 : (iC ⟨x.prev, x.idx, [], x.seq, []⟩ (.slice none 0 0) (.slice none 0 0)).size = 36 := iC_size hxo.len _ _
    (refine W_at c13_ok ?_; refine ⟨_, rfl, ?_⟩; simp (disch := first | omega | assumption | rfl | (simp only [vcS] <;> omega) | fail) only [↓vcL1, ↓vcA, vcB, ↓reduceIte, Nat.reduceEqDiff, Option.bind_some, Option.map_some, vcM, h4j, t1', b1, Int.toNat_natCast, q1, q2, h4a, r1, r2, hp33, hib, hs36])
    refine ⟨iC_flat rfl rfl, by simp [zc, runs], ?_⟩
    have hEn : Ext wj ((wj.drew.alloc (.cells (zc [(32, .int .u8 0), (1, .int .u32 0), (1, .slice none 0 0), (1, .int .u32 0), (1, .slice none 0 0)]) 50)).putN wj.heap.size 0 (iC ⟨x.prev, x.idx, [], x.seq, []⟩ (.slice none 0 0) (.slice none 0 0))) := (hEd.ext hEa).trans ((Keep.refl (fun g => g = wj.heap.size) _).putN _ fun _ => rfl) fun g hg e => by omega
    have h12 : ((wj.drew.alloc (.cells (zc [(32, .int .u8 0), (1, .int .u32 0), (1, .slice none 0 0), (1, .int .u32 0), (1, .slice none 0 0)]) 50)).putN wj.heap.size 0 (iC ⟨x.prev, x.idx, [], x.seq, []⟩ (.slice none 0 0) (.slice none 0 0))).heap[wj.heap.size]? = some (.cells (iC ⟨x.prev, x.idx, [], x.seq, []⟩ (.slice none 0 0) (.slice none 0 0)) 50 (0, 0)) := by
      rw [heap_putN_eq (heap_new wj.drew _ _ (rfl : wj.heap.size = wj.drew.heap.size)), splice_all (by rw [hs36]; rfl)]
    have hPa := hP.keep hEn
    have hsz0 := hP.ext.size
    generalize World.putN _ _ _ _ = wa at h12 hPa hEn ⊢
    generalize hp12 : wj.heap.size = p12 at h12 hsz0 ⊢
    clear hEa hEda hEd r1 r2 h4a q1 q2 hib h4j
    have app17 : ∀ wz p12 vx ox tl (y : TxI) (sy : Value), RL wB wz p10 t vx ox (insP t.ins n bs kind i) [] → wz.heap[p12]? = some (.cells (iC y sy (.slice none 0 0)) 50 (0, 0)) → y.prev.length = 32 → InAt wB (iC y sy (.slice none 0 0)) y → insP t.ins n bs kind i ++ [y] = insP t.ins n bs kind i ++ (if i ≠ n ∧ 128 ≤ kind then [] else [sgI n bs kind i x]) →
        W Try.prog Q 13 17 ((1, .int .i64 (n : Nat)) :: (2, sx) :: (3, .int .u8 kind) :: (4, .pointer (some ⟨p4, 0, none⟩)) :: (8, .pointer (some ⟨p8, 0, none⟩)) :: (9, .int .i64 (kind % 32)) :: (10, .pointer (some ⟨p10, 0, none⟩)) :: (11, .int .i64 (i : Nat)) :: (12, .pointer (some ⟨p12, 0, none⟩)) :: tl) wz := by
      intro wz p12 vx ox tl y sy hz h12 hyl hA he
      have c10 := hz.c10
      have x1 : (txC t vx ox)[1]? = some vx := rfl
      have hs := iC_size hyl sy (.slice none 0 0)
      have hr : rdO (some (.cells (iC y sy (.slice none 0 0)) 50 (0, 0))) 0 36 = some (iC y sy (.slice none 0 0)) := rdO_all _ _ _ _ hs
      have hfl : flat (iC y sy (.slice none 0 0)) := by obtain ⟨sv, wv, e, k1, k2⟩ := hA; rw [e]; exact iC_flat k1.one k2.one
      (refine W_at c13_ok ?_; refine ⟨_, rfl, ?_⟩; simp (disch := first | omega | assumption | rfl | (simp only [vcS] <;> omega) | fail) only [↓ptV_l, ↓vcA, vcB, ↓reduceIte, Nat.reduceEqDiff, Option.bind_some, Option.map_some, List.length_cons, List.length_nil, vcM, c10, x1, h12, hr, hs])
      have hel : ((iC y sy (.slice none 0 0)).toList ++ []).toArray = iC y sy (.slice none 0 0) := by simp
      rw [hel]
      have hsz := hz.ext.size
      refine ListN.app hz.ins (hA : cI wB _ wz _ y) hs hfl (by omega) (by omega) rfl (by decide) hsz (fun _ _ _ _ _ _ _ h => h) fun v' w' k1 k2 k3 k4 => ?_
      obtain ⟨e1, e2, e3⟩ := hz.app1 k3 k1
      refine ⟨e1, e2, ?_⟩
      exact next _ v' ox _ (by rw [← he]; exact e3)
    have app23 : ∀ wz p12 vx ox tl (y : TxI) (sy : Value), RL wB wz p10 t vx ox (insP t.ins n bs kind i) [] → wz.heap[p12]? = some (.cells (iC y sy (.slice none 0 0)) 50 (0, 0)) → y.prev.length = 32 → InAt wB (iC y sy (.slice none 0 0)) y → insP t.ins n bs kind i ++ [y] = insP t.ins n bs kind i ++ (if i ≠ n ∧ 128 ≤ kind then [] else [sgI n bs kind i x]) →
        W Try.prog Q 13 23 ((1, .int .i64 (n : Nat)) :: (2, sx) :: (3, .int .u8 kind) :: (4, .pointer (some ⟨p4, 0, none⟩)) :: (8, .pointer (some ⟨p8, 0, none⟩)) :: (9, .int .i64 (kind % 32)) :: (10, .pointer (some ⟨p10, 0, none⟩)) :: (11, .int .i64 (i : Nat)) :: (12, .pointer (some ⟨p12, 0, none⟩)) :: tl) wz := by
      intro wz p12 vx ox tl y sy hz h12 hyl hA he
      have c10 := hz.c10
      have x1 : (txC t vx ox)[1]? = some vx := rfl
      have hs := iC_size hyl sy (.slice none 0 0)
      have hr : rdO (some (.cells (iC y sy (.slice none 0 0)) 50 (0, 0))) 0 36 = some (iC y sy (.slice none 0 0)) := rdO_all _ _ _ _ hs
      have hfl : flat (iC y sy (.slice none 0 0)) := by obtain ⟨sv, wv, e, k1, k2⟩ := hA; rw [e]; exact iC_flat k1.one k2.one
      (refine W_at c13_ok ?_; refine ⟨_, rfl, ?_⟩; simp (disch := first | omega | assumption | rfl | (simp only [vcS] <;> omega) | fail) only [↓ptV_l, ↓vcA, vcB, ↓reduceIte, Nat.reduceEqDiff, Option.bind_some, Option.map_some, List.length_cons, List.length_nil, vcM, c10, x1, h12, hr, hs])
      have hel : ((iC y sy (.slice none 0 0)).toList ++ []).toArray = iC y sy (.slice none 0 0) := by simp
      rw [hel]
      have hsz := hz.ext.size
      refine ListN.app hz.ins (hA : cI wB _ wz _ y) hs hfl (by omega) (by omega) rfl (by decide) hsz (fun _ _ _ _ _ _ _ h => h) fun v' w' k1 k2 k3 k4 => ?_
      obtain ⟨e1, e2, e3⟩ := hz.app1 k3 k1
      refine ⟨e1, e2, ?_⟩
      exact next _ v' ox _ (by rw [← he]; exact e3)
    by_cases hin : i = n
    · subst hin
      have hone := hx.one
      have hA : InAt wB (iC (sgI i bs kind i x) sx (.slice none 0 0)) (sgI i bs kind i x) := ⟨sx, _, rfl, by simp only [sgI]; exact hx, RowR.nil wB⟩
      have e1 : (iC ⟨x.prev, x.idx, [], x.seq, []⟩ (.slice none 0 0) (.slice none 0 0)).setIfInBounds 33 sx = iC (sgI i bs kind i x) sx (.slice none 0 0) := by
        rw [iC_set33 (x := ⟨x.prev, x.idx, [], x.seq, []⟩) hxo.len]
        simp [iC, sgI]
      have hk : Keep (fun g => g = p12) wa (wa.setCell ⟨p12, 33, none⟩ sx) := (Keep.refl _ wa).setCell _ fun _ => rfl
      have hE2 : Ext wj (wa.setCell ⟨p12, 33, none⟩ sx) := hEn.trans hk fun g hg e => by omega
      have h122 : (wa.setCell ⟨p12, 33, none⟩ sx).heap[p12]? = some (.cells (iC (sgI i bs kind i x) sx (.slice none 0 0)) 50 (0, 0)) := by rw [heap_setCell_eq h12, e1]
      (refine W_at c13_ok ?_; refine ⟨_, rfl, ?_⟩; simp (disch := first | omega | assumption | rfl | (simp only [vcS] <;> omega) | fail) only [↓vcA, vcB, ↓reduceIte, Nat.reduceEqDiff, Option.bind_some])
      (refine W_at c13_ok ?_; refine ⟨_, rfl, ?_⟩; simp (disch := first | omega | assumption | rfl | (simp only [vcS] <;> omega) | fail) only [↓vcA, vcB, ↓reduceIte, Nat.reduceEqDiff])
      (refine W_at c13_ok ?_; refine ⟨_, rfl, ?_⟩; simp (disch := first | omega | assumption | rfl | (simp only [vcS] <;> omega) | fail) only [↓ptV_l, ↓vcA, vcB, ↓reduceIte, Nat.reduceEqDiff, Option.bind_some, hone])
      refine ⟨wr1_of h12 (by rw [hs36]; decide), ?_⟩
      exact app23 _ p12 vx ox _ _ sx (hP.keep hE2) h122 hxo.len hA (by rw [if_neg (by simp)])
    · have hin' : ¬ ((i : Nat) : Int) = (n : Nat) := by omega
      have hA : ∀ sq, InAt wB (iC ⟨x.prev, x.idx, [], sq, []⟩ (.slice none 0 0) (.slice none 0 0)) ⟨x.prev, x.idx, [], sq, []⟩ := fun sq => ⟨_, _, rfl, Rd.nil wB, RowR.nil wB⟩
      -- one input alone, or all
      have st19 : ∀ wz tl sq, RL wB wz p10 t vx ox (insP t.ins n bs kind i) [] → wz.heap[p12]? = some (.cells (iC ⟨x.prev, x.idx, [], sq, []⟩ (.slice none 0 0) (.slice none 0 0)) 50 (0, 0)) → sq = (sgI n bs kind i x).seq →
          W Try.prog Q 13 19 ((1, .int .i64 (n : Nat)) :: (2, sx) :: (3, .int .u8 kind) :: (4, .pointer (some ⟨p4, 0, none⟩)) :: (8, .pointer (some ⟨p8, 0, none⟩)) :: (9, .int .i64 (kind % 32)) :: (10, .pointer (some ⟨p10, 0, none⟩)) :: (11, .int .i64 (i : Nat)) :: (12, .pointer (some ⟨p12, 0, none⟩)) :: tl) wz := by
        intro wz tl sq hz h hsq
        by_cases ha : kind < 128
        · (refine W_at c13_ok ?_; refine ⟨_, rfl, ?_⟩; simp (disch := first | omega | assumption | rfl | (simp only [vcS] <;> omega) | fail) only [↓vcA, vcB, ↓reduceIte, Nat.reduceEqDiff, Option.bind_some, ha])
          (refine W_at c13_ok ?_; refine ⟨_, rfl, ?_⟩; simp (disch := first | omega | assumption | rfl | (simp only [vcS] <;> omega) | fail) only [↓vcA, vcB, ↓reduceIte, Nat.reduceEqDiff])
          refine app17 _ p12 vx ox _ ⟨x.prev, x.idx, [], sq, []⟩ (.slice none 0 0) hz h hxo.len (hA sq) ?_
          rw [if_neg fun h => by omega, hsq]
          simp [sgI, hin]
        · (refine W_at c13_ok ?_; refine ⟨_, rfl, ?_⟩; simp (disch := first | omega | assumption | rfl | (simp only [vcS] <;> omega) | fail) only [↓vcA, vcB, ↓reduceIte, Nat.reduceEqDiff, Option.bind_some, ha])
          (refine W_at c13_ok ?_; refine ⟨_, rfl, ?_⟩; simp (disch := first | omega | assumption | rfl | (simp only [vcS] <;> omega) | fail) only [↓vcA, vcB, ↓reduceIte, Nat.reduceEqDiff])
          refine W_env (next wz vx ox [] ?_) ?_
          · rw [if_pos ⟨hin, by omega⟩, List.append_nil]; exact hz
          · intro p hp
            simp only [List.mem_cons, List.not_mem_nil, or_false] at hp
            rcases hp with rfl | rfl | rfl | rfl | rfl | rfl | rfl | rfl <;> rfl
      have st20 : ∀ tl, (kind % 32 = 2 ∨ kind % 32 = 3) → W Try.prog Q 13 20 ((1, .int .i64 (n : Nat)) :: (2, sx) :: (3, .int .u8 kind) :: (4, .pointer (some ⟨p4, 0, none⟩)) :: (8, .pointer (some ⟨p8, 0, none⟩)) :: (9, .int .i64 (kind % 32)) :: (10, .pointer (some ⟨p10, 0, none⟩)) :: (11, .int .i64 (i : Nat)) :: (12, .pointer (some ⟨p12, 0, none⟩)) :: tl) wa := by
        intro tl hc
        have e1 : (iC ⟨x.prev, x.idx, [], x.seq, []⟩ (.slice none 0 0) (.slice none 0 0)).setIfInBounds 34 (.int .u32 0) = iC ⟨x.prev, x.idx, [], 0, []⟩ (.slice none 0 0) (.slice none 0 0) := iC_set34 (x := ⟨x.prev, x.idx, [], x.seq, []⟩) hxo.len _ _ _
        have hk : Keep (fun g => g = p12) wa (wa.setCell ⟨p12, 34, none⟩ (.int .u32 0)) := (Keep.refl _ wa).setCell _ fun _ => rfl
        have hE2 : Ext wj (wa.setCell ⟨p12, 34, none⟩ (.int .u32 0)) := hEn.trans hk fun g hg e => by omega
        have h122 : (wa.setCell ⟨p12, 34, none⟩ (.int .u32 0)).heap[p12]? = some (.cells (iC ⟨x.prev, x.idx, [], 0, []⟩ (.slice none 0 0) (.slice none 0 0)) 50 (0, 0)) := by rw [heap_setCell_eq h12, e1]
        (refine W_at c13_ok ?_; refine ⟨_, rfl, ?_⟩; simp (disch := first | omega | assumption | rfl | (simp only [vcS] <;> omega) | fail) only [↓ptV_l, ↓vcA, vcB, ↓reduceIte, Nat.reduceEqDiff, Option.bind_some])
        refine ⟨wr1_of h12 (by rw [hs36]; decide), ?_⟩
        exact st19 _ _ 0 (hP.keep hE2) h122 (by simp [sgI, hin, hc])
      (refine W_at c13_ok ?_; refine ⟨_, rfl, ?_⟩; simp (disch := first | omega | assumption | rfl | (simp only [vcS] <;> omega) | fail) only [↓vcA, vcB, ↓reduceIte, Nat.reduceEqDiff, Option.bind_some, hin'])
      (refine W_at c13_ok ?_; refine ⟨_, rfl, ?_⟩; simp (disch := first | omega | assumption | rfl | (simp only [vcS] <;> omega) | fail) only [↓vcA, vcB, ↓reduceIte, Nat.reduceEqDiff])
      by_cases c2 : kind % 32 = 2
      · have d2 : decide (kind % 32 = 2) = true := decide_eq_true c2
        (refine W_at c13_ok ?_; refine ⟨_, rfl, ?_⟩; simp (disch := first | omega | assumption | rfl | (simp only [vcS] <;> omega) | fail) only [↓vcA, vcB, ↓reduceIte, Nat.reduceEqDiff, Option.bind_some, d2])
        (refine W_at c13_ok ?_; refine ⟨_, rfl, ?_⟩; simp (disch := first | omega | assumption | rfl | (simp only [vcS] <;> omega) | fail) only [↓vcA, vcB, ↓reduceIte, Nat.reduceEqDiff])
        exact st20 _ (.inl c2)
      · have d2 : decide (kind % 32 = 2) = false := decide_eq_false c2
        by_cases c3 : kind % 32 = 3
        · have d3 : decide (kind % 32 = 3) = true := decide_eq_true c3
          (refine W_at c13_ok ?_; refine ⟨_, rfl, ?_⟩; simp (disch := first | omega | assumption | rfl | (simp only [vcS] <;> omega) | fail) only [↓vcA, vcB, ↓reduceIte, Nat.reduceEqDiff, Option.bind_some, d2, d3])
          (refine W_at c13_ok ?_; refine ⟨_, rfl, ?_⟩; simp (disch := first | omega | assumption | rfl | (simp only [vcS] <;> omega) | fail) only [↓vcA, vcB, ↓reduceIte, Nat.reduceEqDiff])
          exact st20 _ (.inr c3)
        · have d3 : decide (kind % 32 = 3) = false := decide_eq_false c3
          (refine W_at c13_ok ?_; refine ⟨_, rfl, ?_⟩; simp (disch := first | omega | assumption | rfl | (simp only [vcS] <;> omega) | fail) only [↓vcA, vcB, ↓reduceIte, Nat.reduceEqDiff, Option.bind_some, d2, d3])
          (refine W_at c13_ok ?_; refine ⟨_, rfl, ?_⟩; simp (disch := first | omega | assumption | rfl | (simp only [vcS] <;> omega) | fail) only [↓vcA, vcB, ↓reduceIte, Nat.reduceEqDiff])
          exact st19 wa _ x.seq hPa h12 (by simp [sgI, c2, c3])
end Go.Proofs
namespace Go.Proofs
open Go.Vc
set_option maxRecDepth 10000

set_option maxHeartbeats 6400000 in
theorem rl_outs (Q : Ending → World → Prop) (wB : World) (p4 p8 p10 n : Nat) (t : TxV) (iv ov : Value) (L : List TxI) (kind : Int) (h4 : wB.heap[p4]? = some (.cells (txC t iv ov) 26 (0, 0))) (hO : OusR wB ov t.outs) (hn : t.outs.length ≤ 100)
    (done : ∀ wj vx ox tl, RL wB wj p10 t vx ox L (outQ t.outs n (kind % 32) t.outs.length) → W Try.prog Q 13 2 ((3, .int .u8 kind) :: (8, .pointer (some ⟨p8, 0, none⟩)) :: (10, .pointer (some ⟨p10, 0, none⟩)) :: tl) wj) :
    ∀ (k i : Nat) (wj : World) (vx ox : Value) (tl : Env), i + k = t.outs.length → RL wB wj p10 t vx ox L (outQ t.outs n (kind % 32) i) →
      W Try.prog Q 13 13 ((1, .int .i64 (n : Nat)) :: (3, .int .u8 kind) :: (4, .pointer (some ⟨p4, 0, none⟩)) :: (8, .pointer (some ⟨p8, 0, none⟩)) :: (9, .int .i64 (kind % 32)) :: (10, .pointer (some ⟨p10, 0, none⟩)) :: (13, .int .i64 (i : Nat)) :: tl) wj := by
  have hlO := hO.len
  have t2 : (txC t iv ov)[2]? = some ov := rfl
  intro k
  induction k with
  | zero =>
    intro i wj vx ox tl hi hP
    obtain rfl : i = t.outs.length := by omega
    have hno : ¬ ((t.outs.length : Nat) : Int) < (t.outs.length : Nat) := by omega
    have h4j := hP.ext.at h4 (fun h => h)
    (refine W_at c13_ok ?_; refine ⟨_, rfl, ?_⟩; simp (disch := first | omega | assumption | rfl | (simp only [vcS] <;> omega) | fail) only [↓vcA, vcB, ↓reduceIte, Nat.reduceEqDiff, Option.bind_some, vcM, h4j, t2, hlO, hno])
    (refine W_at c13_ok ?_; refine ⟨_, rfl, ?_⟩; simp (disch := first | omega | assumption | rfl | (simp only [vcS] <;> omega) | fail) only [↓vcA, vcB, ↓reduceIte, Nat.reduceEqDiff])
    refine W_env (done wj vx ox [] hP) ?_
    intro p hp
    simp only [List.mem_cons, List.not_mem_nil, or_false] at hp
    rcases hp with rfl | rfl | rfl <;> rfl
  | succ k ih =>
    intro i wj vx ox tl hi hP
    have hil : i < t.outs.length := by omega
    have hlt : ((i : Nat) : Int) < (t.outs.length : Nat) := by omega
    have b1 : 0 ≤ ((i : Nat) : Int) ∧ ((i : Nat) : Int) < (t.outs.length : Nat) := by omega
    have hwi : IntKind.i64.wrap (((i : Nat) : Int) + 1) = ((i + 1 : Nat) : Int) := wrap_i64 (by omega) (by omega)
    have h4j := hP.ext.at h4 (fun h => h)
    have hil2 := outQ_len (l := t.outs) (n := n) (o := kind % 32) i
    have next : ∀ wz vx ox tl, RL wB wz p10 t vx ox L (outQ t.outs n (kind % 32) (i + 1)) → W Try.prog Q 13 4 ((1, .int .i64 (n : Nat)) :: (3, .int .u8 kind) :: (4, .pointer (some ⟨p4, 0, none⟩)) :: (8, .pointer (some ⟨p8, 0, none⟩)) :: (9, .int .i64 (kind % 32)) :: (10, .pointer (some ⟨p10, 0, none⟩)) :: (13, .int .i64 (i : Nat)) :: tl) wz := by
      intro wz vx ox tl hz
      (refine W_at c13_ok ?_; refine ⟨_, rfl, ?_⟩; simp (disch := first | omega | assumption | rfl | (simp only [vcS] <;> omega) | fail) only [↓vcA, vcB, ↓reduceIte, Nat.reduceEqDiff, Option.bind_some, hwi])
      (refine W_at c13_ok ?_; refine ⟨_, rfl, ?_⟩; simp (disch := first | omega | assumption | rfl | (simp only [vcS] <;> omega) | fail) only [vcB])
      exact ih (i + 1) wz vx ox _ (by omega) hz
    have hstep : outQ t.outs n (kind % 32) (i + 1) = outQ t.outs n (kind % 32) i ++ sgO n (kind % 32) i t.outs[i] := by
      rw [outQ, List.getElem?_eq_getElem hil]; rfl
    rw [hstep] at next
    (refine W_at c13_ok ?_; refine ⟨_, rfl, ?_⟩; simp (disch := first | omega | assumption | rfl | (simp only [vcS] <;> omega) | fail) only [↓vcA, vcB, ↓reduceIte, Nat.reduceEqDiff, Option.bind_some, vcM, h4j, t2, hlO, hlt])
    (refine W_at c13_ok ?_; refine ⟨_, rfl, ?_⟩; simp (disch := first | omega | assumption | rfl | (simp only [vcS] <;> omega) | fail) only [↓vcA, vcB, ↓reduceIte, Nat.reduceEqDiff])
    obtain ⟨bb, o, c, cs, ev, hr0, hcs, sv, rfl, hsvW⟩ := hO.at hil
    generalize t.outs[i] = y at next hr0 hsvW
    have t2' : (txC t iv ov)[2]? = some (.slice (some ⟨bb, o, none⟩) t.outs.length c) := by rw [t2, ev]
    have hr := rdO_ext' hP.ext hr0
    have s2 : (oC y sv).size = 2 := rfl
    (refine W_at c13_ok ?_; refine ⟨_, rfl, ?_⟩; simp (disch := first | omega | assumption | rfl | (simp only [vcS] <;> omega) | fail) only [↓ptV_l, ↓vcA, vcB, ↓reduceIte, Nat.reduceEqDiff, Nat.reduceAdd, Option.bind_some, Option.map_some, vcM, h4j, t2', b1, Int.toNat_natCast, hr, s2])
    refine ⟨oC_flat hsvW.one, ?_⟩
    have hEn : Ext wj ((wj.alloc (.cells (zc [(1, .int .i64 0), (1, .slice none 0 0)]) 54)).putN wj.heap.size 0 (oC y sv)) := ((Keep.refl _ wj).alloc _).putN _ (by intro hh; exfalso; omega)
    have h14 : ((wj.alloc (.cells (zc [(1, .int .i64 0), (1, .slice none 0 0)]) 54)).putN wj.heap.size 0 (oC y sv)).heap[wj.heap.size]? = some (.cells (oC y sv) 54 (0, 0)) := by
      rw [heap_putN_eq (heap_new _ _ _ rfl), splice_all (by rfl)]
    have hPa := hP.keep hEn
    generalize World.putN _ _ _ _ = wa at h14 hPa hEn ⊢
    generalize hp14 : wj.heap.size = p14 at h14 ⊢
    have app5 : ∀ wz vx ox tl (y' : TxO) (sy : Value), RL wB wz p10 t vx ox L (outQ t.outs n (kind % 32) i) → wz.heap[p14]? = some (.cells (oC y' sy) 54 (0, 0)) → OuAt wB (oC y' sy) y' → [y'] = sgO n (kind % 32) i y →
        W Try.prog Q 13 5 ((1, .int .i64 (n : Nat)) :: (3, .int .u8 kind) :: (4, .pointer (some ⟨p4, 0, none⟩)) :: (8, .pointer (some ⟨p8, 0, none⟩)) :: (9, .int .i64 (kind % 32)) :: (10, .pointer (some ⟨p10, 0, none⟩)) :: (13, .int .i64 (i : Nat)) :: (14, .pointer (some ⟨p14, 0, none⟩)) :: tl) wz := by
      intro wz vx ox tl y' sy hz h14 hA he
      have c10 := hz.c10
      have x2 : (txC t vx ox)[2]? = some ox := rfl
      have hs : (oC y' sy).size = 2 := rfl
      have hr : rdO (some (.cells (oC y' sy) 54 (0, 0))) 0 2 = some (oC y' sy) := rdO_all _ _ _ _ hs
      have hfl : flat (oC y' sy) := by obtain ⟨sv, e, k1⟩ := hA; rw [e]; exact oC_flat k1.one
      (refine W_at c13_ok ?_; refine ⟨_, rfl, ?_⟩; simp (disch := first | omega | assumption | rfl | (simp only [vcS] <;> omega) | fail) only [↓ptV_l, ↓vcA, vcB, ↓reduceIte, Nat.reduceEqDiff, Option.bind_some, Option.map_some, List.length_cons, List.length_nil, vcM, c10, x2, h14, hr, hs])
      have hel : ((oC y' sy).toList ++ []).toArray = oC y' sy := by simp
      rw [hel]
      have hsz := hz.ext.size
      refine ListN.app hz.outs (hA : cO wB _ wz _ y') hs hfl (by omega) (by omega) rfl (by decide) hsz (fun _ _ _ _ _ _ _ h => h) fun v' w' k1 k2 k3 k4 => ?_
      obtain ⟨e1, e2, e3⟩ := hz.app2 k3 k1
      refine ⟨e1, e2, ?_⟩
      exact next _ vx v' _ (by rw [← he]; exact e3)
    have skip : ∀ tl, sgO n (kind % 32) i y = [] → W Try.prog Q 13 4 ((1, .int .i64 (n : Nat)) :: (3, .int .u8 kind) :: (4, .pointer (some ⟨p4, 0, none⟩)) :: (8, .pointer (some ⟨p8, 0, none⟩)) :: (9, .int .i64 (kind % 32)) :: (10, .pointer (some ⟨p10, 0, none⟩)) :: (13, .int .i64 (i : Nat)) :: tl) wa := by
      intro tl he
      exact next wa vx ox tl (by rw [he, List.append_nil]; exact hPa)
    have st6 : ∀ tl, kind % 32 = 3 → i < n → W Try.prog Q 13 6 ((1, .int .i64 (n : Nat)) :: (3, .int .u8 kind) :: (4, .pointer (some ⟨p4, 0, none⟩)) :: (8, .pointer (some ⟨p8, 0, none⟩)) :: (9, .int .i64 (kind % 32)) :: (10, .pointer (some ⟨p10, 0, none⟩)) :: (13, .int .i64 (i : Nat)) :: (14, .pointer (some ⟨p14, 0, none⟩)) :: tl) wa := by
      intro tl h3 hl
      have hb : #[Value.int .i64 (-1)] ++ zc [(1, .slice none 0 0)] = oC ⟨-1, []⟩ (.slice none 0 0) := rfl
      have hs : (oC ⟨-1, []⟩ (.slice none 0 0)).size = 2 := rfl
      have ho : okO (some (.cells (oC y sv) 54 (0, 0))) 0 2 = True := by simp [okO, s2]
      have hk : Keep (fun g => g = p14) wa (wa.putN p14 0 (oC ⟨-1, []⟩ (.slice none 0 0))) := (Keep.refl _ wa).putN _ fun _ => rfl
      have hE2 : Ext wj (wa.putN p14 0 (oC ⟨-1, []⟩ (.slice none 0 0))) := hEn.trans hk fun g hg e => by omega
      have h142 : (wa.putN p14 0 (oC ⟨-1, []⟩ (.slice none 0 0))).heap[p14]? = some (.cells (oC ⟨-1, []⟩ (.slice none 0 0)) 54 (0, 0)) := by rw [heap_putN_eq h14, splice_all (by rfl)]
      (refine W_at c13_ok ?_; refine ⟨_, rfl, ?_⟩; simp (disch := first | omega | assumption | rfl | (simp only [vcS] <;> omega) | fail) only [↓ptV_l, ↓vcA, vcB, ↓reduceIte, Nat.reduceEqDiff, Int.reduceNeg, Option.bind_some, Option.map_some, vcM, hb, hs, h14, ho])
      refine ⟨oC_flat rfl, ?_⟩
      refine app5 _ vx ox _ ⟨-1, []⟩ (.slice none 0 0) (hP.keep hE2) h142 ⟨_, rfl, Rd.nil wB⟩ ?_
      unfold sgO
      rw [if_neg (by rintro (h | h) <;> omega), if_pos ⟨h3, hl⟩]
    by_cases c2 : kind % 32 = 2
    · have d2 : decide (kind % 32 = 2) = true := decide_eq_true c2
      (refine W_at c13_ok ?_; refine ⟨_, rfl, ?_⟩; simp (disch := first | omega | assumption | rfl | (simp only [vcS] <;> omega) | fail) only [↓vcA, vcB, ↓reduceIte, Nat.reduceEqDiff, Option.bind_some, d2])
      (refine W_at c13_ok ?_; refine ⟨_, rfl, ?_⟩; simp (disch := first | omega | assumption | rfl | (simp only [vcS] <;> omega) | fail) only [↓vcA, vcB, ↓reduceIte, Nat.reduceEqDiff])
      refine W_env (skip [] (by unfold sgO; rw [if_pos (.inl c2)])) ?_
      intro p hp
      simp only [List.mem_cons, List.not_mem_nil, or_false] at hp
      rcases hp with rfl | rfl | rfl | rfl | rfl | rfl | rfl <;> rfl
    · have d2 : decide (kind % 32 = 2) = false := decide_eq_false c2
      by_cases c3 : kind % 32 = 3
      · have d3 : decide (kind % 32 = 3) = true := decide_eq_true c3
        by_cases hg : n < i
        · have hg' : ((n : Nat) : Int) < (i : Nat) := by omega
          (refine W_at c13_ok ?_; refine ⟨_, rfl, ?_⟩; simp (disch := first | omega | assumption | rfl | (simp only [vcS] <;> omega) | fail) only [↓vcA, vcB, ↓reduceIte, Nat.reduceEqDiff, Option.bind_some, d2, d3, hg'])
          (refine W_at c13_ok ?_; refine ⟨_, rfl, ?_⟩; simp (disch := first | omega | assumption | rfl | (simp only [vcS] <;> omega) | fail) only [↓vcA, vcB, ↓reduceIte, Nat.reduceEqDiff])
          refine W_env (skip [] (by unfold sgO; rw [if_pos (.inr ⟨c3, hg⟩)])) ?_
          intro p hp
          simp only [List.mem_cons, List.not_mem_nil, or_false] at hp
          rcases hp with rfl | rfl | rfl | rfl | rfl | rfl | rfl <;> rfl
        · have hg' : ¬ ((n : Nat) : Int) < (i : Nat) := by omega
          (refine W_at c13_ok ?_; refine ⟨_, rfl, ?_⟩; simp (disch := first | omega | assumption | rfl | (simp only [vcS] <;> omega) | fail) only [↓vcA, vcB, ↓reduceIte, Nat.reduceEqDiff, Option.bind_some, d2, d3, hg'])
          (refine W_at c13_ok ?_; refine ⟨_, rfl, ?_⟩; simp (disch := first | omega | assumption | rfl | (simp only [vcS] <;> omega) | fail) only [↓vcA, vcB, ↓reduceIte, Nat.reduceEqDiff])
          by_cases hl : i < n
          · have hl' : ((i : Nat) : Int) < (n : Nat) := by omega
            (refine W_at c13_ok ?_; refine ⟨_, rfl, ?_⟩; simp (disch := first | omega | assumption | rfl | (simp only [vcS] <;> omega) | fail) only [↓vcA, vcB, ↓reduceIte, Nat.reduceEqDiff, Option.bind_some, d3, hl'])
            (refine W_at c13_ok ?_; refine ⟨_, rfl, ?_⟩; simp (disch := first | omega | assumption | rfl | (simp only [vcS] <;> omega) | fail) only [↓vcA, vcB, ↓reduceIte, Nat.reduceEqDiff])
            exact st6 _ c3 hl
          · have hl' : ¬ ((i : Nat) : Int) < (n : Nat) := by omega
            (refine W_at c13_ok ?_; refine ⟨_, rfl, ?_⟩; simp (disch := first | omega | assumption | rfl | (simp only [vcS] <;> omega) | fail) only [↓vcA, vcB, ↓reduceIte, Nat.reduceEqDiff, Option.bind_some, d3, hl'])
            (refine W_at c13_ok ?_; refine ⟨_, rfl, ?_⟩; simp (disch := first | omega | assumption | rfl | (simp only [vcS] <;> omega) | fail) only [↓vcA, vcB, ↓reduceIte, Nat.reduceEqDiff])
            refine app5 wa vx ox _ y sv hPa h14 ⟨sv, rfl, hsvW⟩ ?_
            unfold sgO
            rw [if_neg (by rintro (h | h); exact c2 h; exact hg h.2), if_neg fun h => hl h.2]
      · have d3 : decide (kind % 32 = 3) = false := decide_eq_false c3
        (refine W_at c13_ok ?_; refine ⟨_, rfl, ?_⟩; simp (disch := first | omega | assumption | rfl | (simp only [vcS] <;> omega) | fail) only [↓vcA, vcB, ↓reduceIte, Nat.reduceEqDiff, Option.bind_some, d2, d3])
        (refine W_at c13_ok ?_; refine ⟨_, rfl, ?_⟩; simp (disch := first | omega | assumption | rfl | (simp only [vcS] <;> omega) | fail) only [↓vcA, vcB, ↓reduceIte, Nat.reduceEqDiff])
        (refine W_at c13_ok ?_; refine ⟨_, rfl, ?_⟩; simp (disch := first | omega | assumption | rfl | (simp only [vcS] <;> omega) | fail) only [↓vcA, vcB, ↓reduceIte, Nat.reduceEqDiff, Option.bind_some, d3])
        (refine W_at c13_ok ?_; refine ⟨_, rfl, ?_⟩; simp (disch := first | omega | assumption | rfl | (simp only [vcS] <;> omega) | fail) only [↓vcA, vcB, ↓reduceIte, Nat.reduceEqDiff])
        refine app5 wa vx ox _ y sv hPa h14 ⟨sv, rfl, hsvW⟩ ?_
        unfold sgO
        rw [if_neg (by rintro (h | h); exact c2 h; exact c3 h.1), if_neg fun h => c3 h.1]
set_option maxHeartbeats 6400000 in
theorem rlegacy_ok (w : World) (iv ov : Value) (t : TxV) (hT : TxR w iv ov t) (hL : t.Lm) (i : Int) (sx : Value) (bs : List Int) (hx : Rd w sx bs) (hb : byt bs) (hbl : bs.length ≤ 1000) (kind : Int) (hk : 0 ≤ kind ∧ kind ≤ 255) :
    Calls Try.prog 13 #[.agg (txC t iv ov), .int .i64 i, sx, .int .u8 kind] w (Ret fun u w' => u = .agg (bv (legG t i bs kind)).toArray ∧ Ext w w') := by
  refine calls_of_cfg c13_ok (Nat.le_of_ble_eq_true rfl) ?_
  simp only [argE_nil, argE_cons, Nat.reduceAdd, Nat.zero_add]
  have hli := ListR.len hT.ins
  have hlo := ListR.len hT.outs
  have hfx := txC_flat hT
  have hcx : (Value.agg (txC t iv ov)).cells = txC t iv ov := rfl
  have hzx := txC_sz t iv ov
  (refine W_at c13_ok ?_; refine ⟨_, rfl, ?_⟩; simp (disch := first | omega | assumption | rfl | (simp only [vcS] <;> omega) | fail) only [↓ptV_l, ↓vcA, vcB, ↓reduceIte, Nat.reduceEqDiff, reduceCtorEq, vcM, hcx])
  have hE1 : Ext w (w.alloc (.cells (txC t iv ov) 26)) := (Keep.refl _ w).alloc _
  have c5 : (w.alloc (.cells (txC t iv ov) 26)).heap[w.heap.size]? = some (.cells (txC t iv ov) 26 (0, 0)) := heap_new _ _ _ rfl
  have s1 : (w.alloc (.cells (txC t iv ov) 26)).heap.size = w.heap.size + 1 := size_alloc _ _
  generalize World.alloc w _ = w1 at hE1 c5 s1 ⊢
  have hb1 : zc [(32, Value.int .u8 0)] = (bv zeroD).toArray := rfl
  have hE2 : Ext w1 (w1.alloc (.cells (zc [(32, .int .u8 0)]) 35)) := (Keep.refl _ w1).alloc _
  have h8 : (w1.alloc (.cells (zc [(32, .int .u8 0)]) 35)).heap[w.heap.size + 1]? = some (.cells (bv zeroD).toArray 35 (0, 0)) := by rw [hb1]; exact heap_new _ _ _ s1.symm
  generalize World.alloc w1 _ = w2 at hE2 h8 ⊢
  have h4 := hE2.at c5 (fun h => h)
  have hE := hE1.ext hE2
  have hT2 := hT.ext hE
  have hx2 := hx.ext hE
  have t0 : (txC t iv ov)[0]? = some (.int .i32 t.ver) := rfl
  have t1 : (txC t iv ov)[1]? = some iv := rfl
  have t2 : (txC t iv ov)[2]? = some ov := rfl
  have t3 : (txC t iv ov)[3]? = some (.int .u32 t.lock) := rfl
  have l8 : w.heap.size ≤ w.heap.size + 1 := by omega
  generalize w.heap.size + 1 = p8 at h8 l8 ⊢
  generalize hp4 : w.heap.size = p4 at h4 ⊢
  have o32 := ok32 (T := 35) zeroD_len
  (refine W_at c13_ok ?_; refine ⟨_, rfl, ?_⟩; simp (disch := first | omega | assumption | rfl | (simp only [vcS] <;> omega) | fail) only [↓ptV_l, ↓vcA, vcB, ↓reduceIte, Nat.reduceEqDiff, Option.bind_some, Option.map_some])
  refine callV_ret (outs12_ok w2 kind hk) ?_
  rintro _ wx ⟨rfl, hwx⟩
  rw [hwx]
  clear hwx
  first | (simp (disch := first | omega | assumption | rfl | (simp only [vcS] <;> omega) | fail) only [↓ptV_l, ↓vcA, vcB, ↓vcD, vcE, ↓reduceIte, Nat.reduceEqDiff, Nat.reduceAdd, Nat.reduceMul, Nat.reduceLeDiff, Int.reduceLE, Int.reduceLT, Int.reduceEq, Int.reduceToNat, Int.reduceAdd, Int.reduceSub, Int.reduceMul, Int.reduceNeg, reduceCtorEq, Option.bind_some, Option.map_some, List.length_cons, List.length_nil, vcM, List.getElem?_toArray, List.getElem?_cons_zero, List.getElem?_cons_succ]) | skip
  -- nothing to sign
  have noth : (i < 0 ∨ (t.ins.length : Int) ≤ i ∨ kind % 32 = 3 ∧ (t.outs.length : Int) ≤ i) → ∀ tl, W Try.prog (Ret fun u w' => u = .agg (bv (legG t i bs kind)).toArray ∧ Ext w w') 13 35 ((1, .int .i64 i) :: (2, sx) :: (3, .int .u8 kind) :: (4, .pointer (some ⟨p4, 0, none⟩)) :: (8, .pointer (some ⟨p8, 0, none⟩)) :: tl) w2 := by
    intro hno tl
    have e : legG t i bs kind = oneD := by unfold legG; rw [if_pos hno]
    rw [e]
    have hbo : #[Value.int .u8 1] ++ zc [(31, .int .u8 0)] = (bv oneD).toArray := rfl
    have s32 : (bv oneD).toArray.size = 32 := rfl
    have d9 := put32 h8 zeroD_len (show oneD.length = 32 from rfl)
    have hr32 : rdO (some (.cells (bv oneD).toArray 35 (0, 0))) 0 32 = some (bv oneD).toArray := rdO_all _ _ _ _ s32
    (refine W_at c13_ok ?_; refine ⟨_, rfl, ?_⟩; simp (disch := first | omega | assumption | rfl | (simp only [vcS] <;> omega) | fail) only [↓ptV_l, ↓vcA, vcB, ↓reduceIte, Nat.reduceEqDiff, Option.bind_some, Option.map_some, vcM, hbo, s32, h8, o32])
    refine ⟨bv_flat _, ?_⟩
    (refine W_at c13_ok ?_; refine ⟨_, rfl, ?_⟩; simp (disch := first | omega | assumption | rfl | (simp only [vcS] <;> omega) | fail) only [↓vcA, vcB, ↓reduceIte, Option.bind_some, Option.map_some, vcM, d9, hr32, Ret_returned])
    exact hE.trans ((Keep.refl (fun g => g = p8) w2).putN _ fun _ => rfl) fun g hg e => by omega
  -- what is signed
  have go : ∀ n : Nat, i = n → n < t.ins.length → (kind % 32 = 3 → n < t.outs.length) → ∀ tl, W Try.prog (Ret fun u w' => u = .agg (bv (legG t i bs kind)).toArray ∧ Ext w w') 13 33 ((1, .int .i64 i) :: (2, sx) :: (3, .int .u8 kind) :: (4, .pointer (some ⟨p4, 0, none⟩)) :: (8, .pointer (some ⟨p8, 0, none⟩)) :: (9, .int .i64 (kind % 32)) :: tl) w2 := by
    intro n hin hn h3 tl
    subst hin
    obtain ⟨hsok, hsf⟩ := sgT_ok (n := n) (kind := kind) hL hb hbl
    have hse := sgT_enc bs hn h3 hk
    have hsl := encF_len hsok hsf
    have hsb := encF_byt hsok
    rw [← hse]
    have hEa : Ext w2 (w2.alloc (.cells (zc [(1, .int .i32 0), (2, .slice none 0 0), (1, .int .u32 0)]) 26)) := (Keep.refl _ w2).alloc _
    have h10 : (w2.alloc (.cells (zc [(1, .int .i32 0), (2, .slice none 0 0), (1, .int .u32 0)]) 26)).heap[w2.heap.size]? = some (.cells (zc [(1, .int .i32 0), (2, .slice none 0 0), (1, .int .u32 0)]) 26 (0, 0)) := heap_new _ _ _ rfl
    (refine W_at c13_ok ?_; refine ⟨_, rfl, ?_⟩; simp (disch := first | omega | assumption | rfl | (simp only [vcS] <;> omega) | fail) only [↓ptV_l, ↓vcA, vcB, ↓reduceIte, Nat.reduceEqDiff])
    have h4a := hEa.at h4 (fun h => h)
    generalize World.alloc w2 _ = w3 at hEa h10 h4a ⊢
    generalize hp10 : w2.heap.size = p10 at h10 ⊢
    have z4 : (zc [(1, Value.int .i32 0), (2, .slice none 0 0), (1, .int .u32 0)]).size = 4 := rfl
    (refine W_at c13_ok ?_; refine ⟨_, rfl, ?_⟩; simp (disch := first | omega | assumption | rfl | (simp only [vcS] <;> omega) | fail) only [↓ptV_l, ↓vcA, vcB, ↓reduceIte, Nat.reduceEqDiff, Option.bind_some, vcM, h4a, t0])
    refine ⟨wr1_of h10 (by rw [z4]; decide), ?_⟩
    have hk1 : Keep (fun g => g = p10) w3 (w3.setCell ⟨p10, 0, none⟩ (.int .i32 t.ver)) := (Keep.refl _ w3).setCell _ fun _ => rfl
    have hEb : Ext w2 (w3.setCell ⟨p10, 0, none⟩ (.int .i32 t.ver)) := hEa.trans hk1 fun g hg e => by omega
    have h10b : (w3.setCell ⟨p10, 0, none⟩ (.int .i32 t.ver)).heap[p10]? = some (.cells #[.int .i32 t.ver, .slice none 0 0, .slice none 0 0, .int .u32 0] 26 (0, 0)) := by rw [heap_setCell_eq h10]; rfl
    generalize World.setCell w3 _ _ = w4 at hk1 hEb h10b ⊢
    have h4b := hEb.at h4 (fun h => h)
    (refine W_at c13_ok ?_; refine ⟨_, rfl, ?_⟩; simp (disch := first | omega | assumption | rfl | (simp only [vcS] <;> omega) | fail) only [↓ptV_l, ↓vcA, vcB, ↓reduceIte, Nat.reduceEqDiff, Option.bind_some, vcM, h4b, t3])
    refine ⟨wr1_of h10b (by simp), ?_⟩
    have hk2 : Keep (fun g => g = p10) w4 (w4.setCell ⟨p10, 3, none⟩ (.int .u32 t.lock)) := (Keep.refl _ w4).setCell _ fun _ => rfl
    have hEc : Ext w2 (w4.setCell ⟨p10, 3, none⟩ (.int .u32 t.lock)) := hEb.trans hk2 fun g hg e => by omega
    have h10c : (w4.setCell ⟨p10, 3, none⟩ (.int .u32 t.lock)).heap[p10]? = some (.cells (txC t (.slice none 0 0) (.slice none 0 0)) 26 (0, 0)) := by rw [heap_setCell_eq h10b]; rfl
    generalize World.setCell w4 _ _ = w5 at hk2 hEc h10c ⊢
    have hP : RL w2 w5 p10 t (.slice none 0 0) (.slice none 0 0) [] [] := ⟨hEc, h10c, ListN.nil _ _ _ _ _, ListN.nil _ _ _ _ _, by omega⟩
    clear hEa h10 h4a hk1 hEb h10b h4b hk2 hEc h10c noth
    (refine W_at c13_ok ?_; refine ⟨_, rfl, ?_⟩; simp (disch := first | omega | assumption | rfl | (simp only [vcS] <;> omega) | fail) only [↓vcA, vcB, ↓reduceIte, Nat.reduceEqDiff])
    refine rl_ins _ w2 p4 p8 p10 n t iv ov sx bs kind h4 hT2.ins hL.ok (by have := hL.ins; omega) hx2 (fun wj vx ox tl hPj => ?_) t.ins.length 0 w5 _ _ _ (by omega) hP
    (refine W_at c13_ok ?_; refine ⟨_, rfl, ?_⟩; simp (disch := first | omega | assumption | rfl | (simp only [vcS] <;> omega) | fail) only [↓vcA, vcB, ↓reduceIte, Nat.reduceEqDiff])
    refine rl_outs _ w2 p4 p8 p10 n t iv ov _ kind h4 hT2.outs (by have := hL.outs; omega) (fun wj vx ox tl hPj => ?_) t.outs.length 0 wj _ _ _ (by omega) hPj
    have c10 : wj.heap[p10]? = some (.cells (txC (sgT t n bs kind) vx ox) 26 (0, 0)) := hPj.c10
    have hR : TxR wj vx ox (sgT t n bs kind) := hPj.txR
    have r4 : rdO (some (.cells (txC (sgT t n bs kind) vx ox) 26 (0, 0))) 0 4 = some (txC (sgT t n bs kind) vx ox) := rdO_all _ _ _ _ rfl
    generalize sgT t n bs kind = S at hsok hsf hsl hsb c10 hR r4 ⊢
    (refine W_at c13_ok ?_; refine ⟨_, rfl, ?_⟩; simp (disch := first | omega | assumption | rfl | (simp only [vcS] <;> omega) | fail) only [↓vcL1, ↓vcA, vcB, ↓reduceIte, Nat.reduceEqDiff, Option.bind_some, Option.map_some, vcM, c10, r4])
    refine callV_ret (rencode_ok wj vx ox S hR hsok hsf) ?_
    intro u wk hu
    simp (disch := first | omega | assumption | rfl | (simp only [vcS] <;> omega) | fail) only [↓vcL2, ptS1_eq, ↓vcA, vcB, ↓reduceIte, Nat.reduceEqDiff, Nat.reduceAdd, Option.bind_some, Option.map_some, List.length_cons, List.length_nil, vcM]
    refine appNL (news := [kind, 0, 0, 0]) hu (by simp; omega) fun v' w' h1 _ _ => ?_
    simp (disch := first | omega | assumption | rfl | (simp only [vcS] <;> omega) | fail) only [↓vcL1, ptS2_eq, ↓vcA, vcB, ↓reduceIte, Option.bind_some, Option.map_some]
    have hkb : byt [kind, 0, 0, 0] := by
      intro b hb
      simp only [List.mem_cons, List.not_mem_nil, or_false] at hb
      rcases hb with rfl | rfl | rfl | rfl <;> omega
    refine callV_ret (rdouble_ok w' v' _ h1.own.rd (byt_app hsb hkb) (by simp; omega)) ?_
    rintro _ wl ⟨rfl, hl⟩
    have hEl := (hPj.ext.ext h1.ext).ext hl
    have h8l := hEl.at h8 (fun h => h)
    have lD := dblF_len (encF S ++ [kind, 0, 0, 0])
    have s32 : (bv (dblF (encF S ++ [kind, 0, 0, 0]))).toArray.size = 32 := by rw [bva_size, lD]
    first | (simp (disch := first | omega | assumption | rfl | (simp only [vcS] <;> omega) | fail) only [↓vcL2, ptS1_eq, ↓vcA, vcB, ↓reduceIte, Nat.reduceEqDiff, vcM, h8l, s32, o32]) | skip
    refine ⟨bv_flat _, ?_⟩
    have d9 := put32 h8l zeroD_len lD
    have hr32 : rdO (some (.cells (bv (dblF (encF S ++ [kind, 0, 0, 0]))).toArray 35 (0, 0))) 0 32 = some (bv (dblF (encF S ++ [kind, 0, 0, 0]))).toArray := rdO_all _ _ _ _ s32
    (refine W_at c13_ok ?_; refine ⟨_, rfl, ?_⟩; simp (disch := first | omega | assumption | rfl | (simp only [vcS] <;> omega) | fail) only [↓vcA, vcB, ↓reduceIte, Option.bind_some, Option.map_some, vcM, d9, hr32, Ret_returned])
    exact (hE.ext hEl).trans ((Keep.refl (fun g => g = p8) wl).putN _ fun _ => rfl) fun g hg e => by omega
  by_cases a1 : i < 0
  · (refine W_at c13_ok ?_; refine ⟨_, rfl, ?_⟩; simp (disch := first | omega | assumption | rfl | (simp only [vcS] <;> omega) | fail) only [↓vcA, vcB, ↓reduceIte, Nat.reduceEqDiff, Option.bind_some, a1])
    (refine W_at c13_ok ?_; refine ⟨_, rfl, ?_⟩; simp (disch := first | omega | assumption | rfl | (simp only [vcS] <;> omega) | fail) only [↓vcA, vcB, ↓reduceIte, Nat.reduceEqDiff])
    exact noth (.inl a1) _
  by_cases a2 : (t.ins.length : Int) ≤ i
  · (refine W_at c13_ok ?_; refine ⟨_, rfl, ?_⟩; simp (disch := first | omega | assumption | rfl | (simp only [vcS] <;> omega) | fail) only [↓vcA, vcB, ↓reduceIte, Nat.reduceEqDiff, Option.bind_some, vcM, a1, a2, h4, t1, hli])
    (refine W_at c13_ok ?_; refine ⟨_, rfl, ?_⟩; simp (disch := first | omega | assumption | rfl | (simp only [vcS] <;> omega) | fail) only [↓vcA, vcB, ↓reduceIte, Nat.reduceEqDiff])
    exact noth (.inr (.inl a2)) _
  by_cases a3 : kind % 32 = 3
  · have a3' : decide (kind % 32 = 3) = true := decide_eq_true a3
    by_cases a4 : (t.outs.length : Int) ≤ i
    · (refine W_at c13_ok ?_; refine ⟨_, rfl, ?_⟩; simp (disch := first | omega | assumption | rfl | (simp only [vcS] <;> omega) | fail) only [↓vcA, vcB, ↓reduceIte, Nat.reduceEqDiff, Option.bind_some, vcM, a1, a2, a3', a4, h4, t1, t2, hli, hlo])
      (refine W_at c13_ok ?_; refine ⟨_, rfl, ?_⟩; simp (disch := first | omega | assumption | rfl | (simp only [vcS] <;> omega) | fail) only [↓vcA, vcB, ↓reduceIte, Nat.reduceEqDiff])
      exact noth (.inr (.inr ⟨a3, a4⟩)) _
    · (refine W_at c13_ok ?_; refine ⟨_, rfl, ?_⟩; simp (disch := first | omega | assumption | rfl | (simp only [vcS] <;> omega) | fail) only [↓vcA, vcB, ↓reduceIte, Nat.reduceEqDiff, Option.bind_some, vcM, a1, a2, a3', a4, h4, t1, t2, hli, hlo])
      (refine W_at c13_ok ?_; refine ⟨_, rfl, ?_⟩; simp (disch := first | omega | assumption | rfl | (simp only [vcS] <;> omega) | fail) only [↓vcA, vcB, ↓reduceIte, Nat.reduceEqDiff])
      exact go i.toNat (by omega) (by omega) (fun _ => by omega) _
  · have a3' : decide (kind % 32 = 3) = false := decide_eq_false a3
    (refine W_at c13_ok ?_; refine ⟨_, rfl, ?_⟩; simp (disch := first | omega | assumption | rfl | (simp only [vcS] <;> omega) | fail) only [↓vcA, vcB, ↓reduceIte, Nat.reduceEqDiff, Option.bind_some, vcM, a1, a2, a3', h4, t1, hli])
    (refine W_at c13_ok ?_; refine ⟨_, rfl, ?_⟩; simp (disch := first | omega | assumption | rfl | (simp only [vcS] <;> omega) | fail) only [↓vcA, vcB, ↓reduceIte, Nat.reduceEqDiff])
    exact go i.toNat (by omega) (by omega) (fun h => absurd h a3) _
end Go.Proofs
namespace Go.Proofs
open Go.Vc
set_option maxRecDepth 10000

set_option maxHeartbeats 6400000 in
theorem leglaw_ok (w : World) (iv ov : Value) (t : TxV) (hT : TxR w iv ov t) (hok : t.Ok) (hsz : t.Sz) (i : Int) (hi64 : -9223372036854775808 ≤ i ∧ i ≤ 9223372036854775807) (kind : Int) (hk : 0 ≤ kind ∧ kind ≤ 255) (sx : Value) (bs : List Int) (hx : Rd w sx bs) (hb : byt bs) (value : Int) :
    Calls Try.prog 3 #[.agg (txC t iv ov), .agg (wyC i kind sx value)] w (Ret fun u w' => u = .bool true ∧ Ext w w') := by
  refine calls_of_cfg c3_ok (Nat.le_of_ble_eq_true rfl) ?_
  simp only [argE_nil, argE_cons, Nat.reduceAdd, Nat.zero_add]
  have hfx := txC_flat hT
  have hcx : (Value.agg (txC t iv ov)).cells = txC t iv ov := rfl
  have hzx := txC_sz t iv ov
  have hfy := wyC_flat (i := i) (kind := kind) (value := value) hx.one
  have hcy : (Value.agg (wyC i kind sx value)).cells = wyC i kind sx value := rfl
  have hzy : (wyC i kind sx value).size = 4 := rfl
  (refine W_at c3_ok ?_; refine ⟨_, rfl, ?_⟩; simp (disch := first | omega | assumption | rfl | (simp only [vcS] <;> omega) | fail) only [↓ptV_l, ↓vcA, vcB, ↓reduceIte, Nat.reduceEqDiff, reduceCtorEq, vcM, hcx, hcy])
  have hE1 : Ext w (w.alloc (.cells (txC t iv ov) 26)) := (Keep.refl _ w).alloc _
  have c2 : (w.alloc (.cells (txC t iv ov) 26)).heap[w.heap.size]? = some (.cells (txC t iv ov) 26 (0, 0)) := heap_new _ _ _ rfl
  have s1 : (w.alloc (.cells (txC t iv ov) 26)).heap.size = w.heap.size + 1 := size_alloc _ _
  generalize World.alloc w _ = w1 at hE1 c2 s1 ⊢
  have hE2 : Ext w1 (w1.alloc (.cells (wyC i kind sx value) 29)) := (Keep.refl _ w1).alloc _
  have c3 : (w1.alloc (.cells (wyC i kind sx value) 29)).heap[w.heap.size + 1]? = some (.cells (wyC i kind sx value) 29 (0, 0)) := heap_new _ _ _ s1.symm
  generalize World.alloc w1 _ = w2 at hE2 c3 ⊢
  have c22 := hE2.at c2 (fun h => h)
  have hE02 := hE1.ext hE2
  generalize hp3 : w.heap.size + 1 = p3 at c3 ⊢
  generalize hp2 : w.heap.size = p2 at c22 c2 hp3 ⊢
  have y0 : (wyC i kind sx value)[0]? = some (.int .i64 i) := rfl
  have y1 : (wyC i kind sx value)[1]? = some (.int .u8 kind) := rfl
  have y2 : (wyC i kind sx value)[2]? = some sx := rfl
  have y3 : (wyC i kind sx value)[3]? = some (.int .i64 value) := rfl
  have r4 : ∀ (t : TxV) (iv ov : Value), rdO (some (.cells (txC t iv ov) 26 (0, 0))) 0 4 = some (txC t iv ov) := fun t iv ov => rdO_all _ _ _ _ rfl
  -- awake
  (refine W_at c3_ok ?_; refine ⟨_, rfl, ?_⟩; simp (disch := first | omega | assumption | rfl | (simp only [vcS] <;> omega) | fail) only [↓ptV_l, ↓vcA, vcB, ↓reduceIte, Nat.reduceEqDiff, Option.bind_some])
  refine callV_ret (awake12_ok w2) ?_
  rintro _ w3 ⟨rfl, hE3⟩
  first | (simp (disch := first | omega | assumption | rfl | (simp only [vcS] <;> omega) | fail) only [↓vcA, vcB]) | skip
  (refine W_at c3_ok ?_; refine ⟨_, rfl, ?_⟩; simp (disch := first | omega | assumption | rfl | (simp only [vcS] <;> omega) | fail) only [↓vcA, vcB, ↓reduceIte, Nat.reduceEqDiff])
  -- cut short
  have hEd : Ext w3 w3.drew := (Keep.refl _ w3).drew
  have c23 := hE3.at c22 (fun h => h)
  have c33 := hE3.at c3 (fun h => h)
  have c23d := hEd.at c23 (fun h => h)
  have c33d := hEd.at c33 (fun h => h)
  have hE03 := hE02.ext (hE3.ext hEd)
  (refine W_at c3_ok ?_; refine ⟨_, rfl, ?_⟩; simp (disch := first | omega | assumption | rfl | (simp only [vcS] <;> omega) | fail) only [↓vcL1, ↓vcA, vcB, ↓reduceIte, Nat.reduceEqDiff, Option.bind_some, Option.map_some, vcM, c23, c33, r4, y2])
  refine callV_ret (few12_ok w3.drew iv ov t (hT.ext hE03) hok hsz) ?_
  rintro _ w4 ⟨t', iv', ov', rfl, hT4, hok4, hsz4, hL4, hE4⟩
  have c24 := hE4.at c23d (fun h => h)
  have c34 := hE4.at c33d (fun h => h)
  refine ⟨by rw [c34]; exact y2, ?_⟩
  simp (disch := first | omega | assumption | rfl | (simp only [vcS] <;> omega) | fail) only [↓vcL2, ptS1_eq, ↓vcA, vcB, ↓reduceIte, Nat.reduceEqDiff, Option.bind_some, Option.map_some]
  have hE04 := hE03.ext hE4
  refine callV_ret (short12_ok w4 sx bs (hx.ext hE04)) ?_
  rintro sx' _ ⟨hx4, rfl⟩
  have hzt := txC_sz t' iv' ov'
  have o4 : okO (some (.cells (txC t iv ov) 26 (0, 0))) 0 4 = True := by simp only [okO, hzx]; simp
  first | (simp (disch := first | omega | assumption | rfl | (simp only [vcS] <;> omega) | fail) only [↓vcL1, ptS2_eq, ↓vcA, vcB, ↓reduceIte, Nat.reduceEqDiff, vcM, c24, hzt, o4]) | skip
  refine ⟨txC_flat hT4.r, ?_⟩
  rename_i wq
  have hk5 : Keep (fun g => g = p2) wq (wq.putN p2 0 (txC t' iv' ov')) := (Keep.refl _ wq).putN _ fun _ => rfl
  have hT5 := hT4.keepT hk5 fun g hg => by subst hg; exact ⟨_, _, c24, by decide, by decide, by decide, by decide⟩
  have d2 : (wq.putN p2 0 (txC t' iv' ov')).heap[p2]? = some (.cells (txC t' iv' ov') 26 (0, 0)) := by rw [heap_putN_eq c24, splice_all (by rw [hzx, hzt])]
  have d3 := hk5.at c34 (show ¬ p3 = p2 by omega)
  have hE5 : Ext w (wq.putN p2 0 (txC t' iv' ov')) := hE04.trans hk5 fun g hg e => by omega
  have hx5 : Rd (wq.putN p2 0 (txC t' iv' ov')) sx' (bs.take 300) := hx4 _ (hx.ext hE5)
  have hT5r := hT5.r
  generalize World.putN _ _ _ _ = w5 at hT5 hT5r d2 d3 hE5 hx5 ⊢
  clear hk5 c24 c34 hT4 hx4 o4 hE04 hE4 c23 c33 c23d c33d hEd hE03 hE3 hE02 hE2 hE1 c2 c22 c3
  have hbs : byt (bs.take 300) := byt_take hb _
  have hbl : (bs.take 300).length ≤ 300 := by rw [List.length_take]; omega
  generalize bs.take 300 = bs' at hx5 hbs hbl
  have hLm : t'.Lm := ⟨hok4, hsz4, by have := hL4.ins; omega, by have := hL4.outs; omega, fun x hx => by have := hL4.inp x hx; omega, fun y hy => by have := hL4.out y hy; omega⟩
  -- a copy
  (refine W_at c3_ok ?_; refine ⟨_, rfl, ?_⟩; simp (disch := first | omega | assumption | rfl | (simp only [vcS] <;> omega) | fail) only [↓ptV_l, ↓vcA, vcB, ↓reduceIte, Nat.reduceEqDiff, Option.bind_some, Option.map_some, vcM, d2, r4])
  refine callV_ret (rcopy_ok w5 iv' ov' t' hT5r hok4 hsz4) ?_
  rintro _ w7 ⟨v1, o1, rfl, hI7, hO7, hE7⟩
  have hR7 := txR_of hI7 hO7
  have hz7 := txC_sz t' v1 o1
  have hf7 := txC_flat hR7
  first | (simp (disch := first | omega | assumption | rfl | (simp only [vcS] <;> omega) | fail) only [↓vcA, vcB, vcM, hz7, hf7]) | skip
  obtain ⟨hE8, d6⟩ := put_tx (wj := w7) (t := t') (iv := v1) (ov := o1)
  refine ⟨by decide, ?_⟩
  generalize World.putN _ _ _ _ = w8 at hE8 d6 ⊢
  generalize w7.heap.size = p6 at d6 ⊢
  have hE78 := hE7.ext hE8
  have d28 := hE78.at d2 (fun h => h)
  have d38 := hE78.at d3 (fun h => h)
  have hT8 := hT5r.ext hE78
  have hC8 := hR7.ext hE8
  have hx8 := hx5.ext hE78
  have hE08 := hE5.ext hE78
  -- spare room
  (refine W_at c3_ok ?_; refine ⟨_, rfl, ?_⟩; simp (disch := first | omega | assumption | rfl | (simp only [vcS] <;> omega) | fail) only [↓ptV_l, ↓vcA, vcB, ↓reduceIte, Nat.reduceEqDiff, Option.bind_some, Option.map_some])
  refine callV_ret (spare_ok w8 sx' bs' hx8 hbs (by omega)) ?_
  rintro _ w9 ⟨g, rfl, hO9, hE9, hg9⟩
  have hin : Rd w9 (.slice (some ⟨g, 0, none⟩) bs'.length (bs'.length + 9)) bs' := by
    have h1 := hO9.rd.cut (l := 0) (j := bs'.length) (by omega) (by omega)
    rw [List.drop_zero, advA_0] at h1
    have h2 : (spareF bs').take bs'.length = bs' := by rw [spareF, List.take_left' rfl]
    rw [h2] at h1
    exact h1
  first | (simp (disch := first | omega | assumption | rfl | (simp only [vcS] <;> omega) | fail) only [↓vcA, vcB, List.getElem?_toArray, List.getElem?_cons_zero, List.getElem?_cons_succ]) | skip
  -- the digests
  have hEd : Ext w9 w9.drew := (Keep.refl _ w9).drew
  have hE9d := hE9.ext hEd
  have d29 := hE9.at d28 (fun h => h)
  have d39 := hE9.at d38 (fun h => h)
  have d69 := hE9.at d6 (fun h => h)
  have d29d := hE9d.at d28 (fun h => h)
  have d39d := hE9d.at d38 (fun h => h)
  have d69d := hE9d.at d6 (fun h => h)
  have hTd := hT8.ext hE9d
  have hCd := hC8.ext hE9d
  have hxd := hx8.ext hE9d
  have hind := hin.ext hEd
  have hOd := hO9.rd.ext hEd
  have hE0d := hE08.ext hE9d
  (refine W_at c3_ok ?_; refine ⟨_, rfl, ?_⟩; simp (disch := first | omega | assumption | rfl | (simp only [vcS] <;> omega) | fail) only [↓vcL1, ↓vcA, vcB, ↓reduceIte, Nat.reduceEqDiff, Option.bind_some, Option.map_some, vcM, d29, d39, r4, y0, y1])
  refine callV_ret (legacy2_ok w9.drew iv' ov' t' hTd hLm i _ bs' hind hbs (by omega) kind hk hi64) ?_
  rintro _ wA ⟨rfl, hEA⟩
  have d2A := hEA.at d29d (fun h => h)
  have d3A := hEA.at d39d (fun h => h)
  have d6A := hEA.at d69d (fun h => h)
  refine ⟨⟨by rw [d3A]; exact y1, by rw [d3A]; exact y0, by rw [d2A, r4]; rfl⟩, ?_⟩
  simp (disch := first | omega | assumption | rfl | (simp only [vcS] <;> omega) | fail) only [↓vcL2, ptS1_eq, ↓vcA, vcB, ↓reduceIte, Nat.reduceEqDiff, Option.bind_some, Option.map_some]
  refine callV_ret (rlegacy_ok wA iv' ov' t' (hTd.ext hEA) hLm i sx' bs' (hxd.ext hEA) hbs (by omega) kind hk) ?_
  rintro _ wB ⟨rfl, hEB⟩
  have d2B := hEB.at d2A (fun h => h)
  have d3B := hEB.at d3A (fun h => h)
  have d6B := hEB.at d6A (fun h => h)
  have qe := eqA_self (legG_len t' i bs' kind)
  have hEdB := hEA.ext hEB
  simp (disch := first | omega | assumption | rfl | (simp only [vcS] <;> omega) | fail) only [↓vcL1, ptS2_eq, ↓vcA, vcB, ↓reduceIte, Nat.reduceEqDiff, Option.bind_some, Option.map_some, qe]
  refine callV_ret (kept_ok wB _ sx' bs' (hOd.ext hEdB) (hxd.ext hEdB) (by omega)) ?_
  rintro _ wC ⟨rfl, hEC⟩
  have d2C := hEC.at d2B (fun h => h)
  have d3C := hEC.at d3B (fun h => h)
  have d6C := hEC.at d6B (fun h => h)
  simp (disch := first | omega | assumption | rfl | (simp only [vcS] <;> omega) | fail) only [↓vcL2, ptS1_eq, ↓vcA, vcB, ↓reduceIte, Nat.reduceEqDiff, Option.bind_some, Option.map_some, vcM, d2C, d6C, r4]
  have hEdC := hEdB.ext hEC
  refine callV_ret (same09_ok wC iv' ov' v1 o1 t' (hTd.ext hEdC) (hCd.ext hEdC) hok4 hsz4) ?_
  rintro _ wD ⟨rfl, hED⟩
  have d3D := hED.at d3C (fun h => h)
  have hEdD := hEdC.ext hED
  simp (disch := first | omega | assumption | rfl | (simp only [vcS] <;> omega) | fail) only [↓vcL1, ptS2_eq, ↓vcA, vcB, ↓reduceIte, Nat.reduceEqDiff, Option.bind_some, Option.map_some, vcM, d3D, y1]
  refine callV_ret (known_ok wD kind hk) ?_
  rintro _ wE ⟨rfl, hwE⟩
  rw [hwE]
  refine ⟨by rw [d3D]; exact y1, ?_⟩
  simp (disch := first | omega | assumption | rfl | (simp only [vcS] <;> omega) | fail) only [↓vcL2, ptS1_eq, ↓vcA, vcB, ↓reduceIte, Nat.reduceEqDiff, Option.bind_some, Option.map_some]
  refine callV_ret (rknown_ok wD kind hk) ?_
  rintro _ wF ⟨rfl, hwF⟩
  rw [hwF]
  first | (simp (disch := first | omega | assumption | rfl | (simp only [vcS] <;> omega) | fail) only [ptS2_eq, ↓vcA, vcB, ↓reduceIte, Nat.reduceEqDiff, Option.bind_some]) | skip
  rw [beq_self_eq_true]
  (refine W_at c3_ok ?_; refine ⟨_, rfl, ?_⟩; simp (disch := first | omega | assumption | rfl | (simp only [vcS] <;> omega) | fail) only [↓vcA, vcB, ↓reduceIte, Option.bind_some, Option.map_some, Ret_returned])
  exact hE0d.ext hEdD
end Go.Proofs
namespace Go.Proofs.Ytmbjokhekfiihaa
open Go.Vc Go.ChangeShapes Go.WideShapes Go.ChangeAt Go.RowKit Go.Proofs

set_option maxRecDepth 100000 in
theorem legacy_lifted (os : Os) (started : os.Started) (H : Type) (enc : TypeId × Value → H) :
    ReturnsInHanded {} Try.checked os 3 .any (Rows.sighashLegacySpec.pre6 enc Try.prog Try.f3 Rows.sighashLegacyRow.domain false) (Rows.sighashLegacySpec.post enc Try.prog Try.f3 false true false false) := by
  refine returnsInHanded_of_change_sized (C := Try.checked) Try.own started (by kernel_rfl) Try.func3
    (ChangeSpec.witness6 (enc := enc) (C := Try.checked) false ⟨#[], #[.agg #[.int .i32 0, .slice none 0 0, .slice none 0 0, .int .u32 0], .agg #[.int .i64 0, .int .u8 0, .slice none 0 0, .int .i64 0]], []⟩ 8 (by kernel_rfl) (by kernel_rfl) (by kernel_rfl) (by kernel_rfl)) ?_
  intro W base args ds gs before hval0 hW hcnd hz _
  refine post_trueB bzT Try.laidOut rfl rfl (tb := 4) (by kernel_rfl) ?_ ?_ hval0 hW hz ?_
  · rw [Try.params3]; intro t ht; simp at ht; rcases ht with rfl | rfl <;> exact ⟨by kernel_rfl, of_decide_eq_true (by kernel_rfl)⟩
  · intro ds hd; rw [Try.params3] at hd; match ds, hd with | [_, _], _ => rfl
  · intro hs ha
    rw [Try.params3] at hs ha
    obtain ⟨v, u, rfl⟩ := args_2 hs
    obtain ⟨t, iv, ov, rfl, hT, hok, hsz⟩ := tx_arg (ha 0 26 v rfl rfl)
    obtain ⟨i, kind, sx, value, bs, rfl, hi, hk, hx, hb, hv⟩ := way_arg (ha 1 29 u rfl rfl)
    exact leglaw_ok W iv ov t hT hok hsz i hi kind hk sx bs hx hb value
theorem legacy_holds : Rows.SighashLegacySaid :=
  OpenClaim.holds_of_wide 3 Try.f3 rfl rfl rfl rfl rfl rfl rfl ⟨rfl, rfl, rfl, rfl, rfl⟩ rfl rfl rfl rfl rfl (by kernel_rfl) Try.func3 (by kernel_rfl)
    (of_decide_eq_true (by kernel_rfl)) (by unfold Func.isWrapper; first | (rw [if_pos (by decide +kernel)]; kernel_rfl) | (rw [if_neg (by decide +kernel)]; exact ⟨rfl, rfl⟩))
    (fun os started H enc _ => legacy_lifted os started H enc)
end Go.Proofs.Ytmbjokhekfiihaa
