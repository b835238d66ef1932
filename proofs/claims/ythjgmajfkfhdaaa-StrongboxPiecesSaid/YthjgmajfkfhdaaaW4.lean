/- The law's 'write': both writers. -/
import Derived.Test.YthjgmajfkfhdaaaW3
set_option linter.unusedSimpArgs false
set_option linter.unusedVariables false
set_option linter.constructorNameAsVariable false
namespace Go.Proofs
open Go.Vc
set_option maxRecDepth 10000

/-- An act. -/
structure ActAt (w : World) (a : Array Value) (kind n : Int) (b : List Int) : Prop where
  is : ∃ x, a = #[.int .i64 kind, .int .u64 n, x] ∧ Rd w x b
  num : 0 ≤ n ∧ n < 18446744073709551616
  byt : byt b
def encA (kind n : Int) (b : List Int) : List Int :=
  if kind = 1 then [n % 256] else if kind = 2 then lowF 2 (n % 65536) else if kind = 3 then lowF 4 (n % 4294967296) else if kind = 4 then lowF 8 n else if kind = 5 then sizeF n
  else if kind = 6 then b.take 300 else sizeF (b.take 300).length ++ b.take 300
theorem encA_len (kind n : Int) (b : List Int) : (encA kind n b).length ≤ 309 := by
  have h1 := @sizeF_len n
  have h2 := @sizeF_len ((b.take 300).length : Int)
  have h3 : (b.take 300).length ≤ 300 := by rw [List.length_take]; omega
  unfold encA
  split; · simp
  split; · simp [lowF_len]
  split; · simp [lowF_len]
  split; · simp [lowF_len]
  split; · omega
  split; · omega
  rw [List.length_append]; omega
theorem encA_byt {kind n : Int} {b : List Int} (hn : 0 ≤ n) (hb : byt b) : byt (encA kind n b) := by
  unfold encA
  split; · intro x hx; simp at hx; omega
  split; · exact lowF_byt _ _
  split; · exact lowF_byt _ _
  split; · exact lowF_byt _ _
  split; · exact sizeF_byt hn
  split; · exact byt_take hb _
  exact byt_app (sizeF_byt (by omega)) (byt_take hb _)

/-- Both writers: the program's, and the document's bytes. -/
structure St (w0 w : World) (p : Nat) (v out : Value) (bs os : List Int) : Prop where
  ext : Ext w0 w
  at' : WAt w p v bs
  pl : w0.heap.size ≤ p
  bl : ∀ g, blk v g → w0.heap.size ≤ g
  nw : New w0 w out os
  dis : ∀ g, blk v g → ¬ blk out g
theorem St.ne {w0 w : World} {p : Nat} {v out : Value} {bs os : List Int} (h : St w0 w p v out bs os) : ¬ blk out p := fun hb => by
  obtain ⟨cur, hc⟩ := row_type h.nw.own hb
  rw [h.at'.at'] at hc; cases hc
theorem St.keep {w0 w w1 : World} {p : Nat} {v out : Value} {bs os : List Int} (h : St w0 w p v out bs os) (k : Ext w w1) : St w0 w1 p v out bs os :=
  ⟨h.ext.ext k, h.at'.keep k (fun h => h) fun _ _ h => h, h.pl, h.bl, h.nw.keep k, h.dis⟩
/-- The program's step. -/
theorem St.wr {w0 w w1 : World} {p : Nat} {v out : Value} {bs os bs' : List Int} (h : St w0 w p v out bs os) (hT : WTo w w1 p v bs') : ∃ v', St w0 w1 p v' out bs' os := by
  obtain ⟨⟨v', h1, h2⟩, h3⟩ := hT
  have hE : Ext w0 w1 := h.ext.trans h3 fun i hi hs => by
    rcases hs with rfl | hs
    · have := h.pl; omega
    · have := h.bl i hs; omega
  refine ⟨v', hE, h1, h.pl, fun g hg => ?_, ⟨h.nw.own.keep h3 fun g hg hs => ?_, hE, h.nw.new⟩, fun g hg ho => ?_⟩
  · rcases h2 g hg with h4 | h4
    · exact h.bl g h4
    · exact Nat.le_trans h.ext.size h4
  · rcases hs with rfl | hs
    · exact h.ne hg
    · exact h.dis g hs hg
  · rcases h2 g hg with h4 | h4
    · exact h.dis g h4 ho
    · have := h.nw.own.lt ho; omega
/-- The document's step. -/
theorem St.ap {w0 w w1 : World} {p : Nat} {v out out' : Value} {bs os os' : List Int} (h : St w0 w p v out bs os) (h1 : New w0 w1 out' os') (h2 : Keep (blk out) w w1) (h3 : ∀ g, blk out' g → blk out g ∨ w.heap.size ≤ g) : St w0 w1 p v out' bs os' := by
  refine ⟨h1.ext, h.at'.keep h2 h.ne fun g hg ho => h.dis g hg ho, h.pl, h.bl, h1, fun g hg ho => ?_⟩
  rcases h3 g ho with h4 | h4
  · exact h.dis g hg h4
  · have := h.at'.own.lt hg; omega

end Go.Proofs
