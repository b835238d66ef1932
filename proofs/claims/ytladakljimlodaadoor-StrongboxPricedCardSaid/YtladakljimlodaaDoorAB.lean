/- Amounts: the library's functions, as they are called here. -/
import Derived.Test.YtladakljimlodaaDoorAS
import Derived.Test.YtladakljimlodaaDoorAA
import Derived.Test.YtladakljimlodaaDoorA0
import Derived.Lib.ParseIntBTie
import Derived.Lib.LaidTab
import Derived.Test.YtladakljimlodaaDoorRows
set_option linter.unusedSimpArgs false
set_option linter.unusedVariables false
set_option linter.constructorNameAsVariable false
namespace Go.Proofs
open Go.Vc
set_option maxRecDepth 10000

/-- The table of powers lies there; the longest part is some number. -/
structure Gs (w : World) : Prop where
  tab : ∃ t f, w.heap[0]? = some (.cells (Lib.pow10Tab.map fun z => Value.int .u64 z).toArray t f)
  mx : ∃ m, w.cell? ⟨1, 0, none⟩ = some (.int .i64 m)
theorem Gs.ext {w w' : World} (h : Gs w) (k : Ext w w') : Gs w' := by
  obtain ⟨⟨t, f, h1⟩, m, h2⟩ := h
  have e1 : w'.heap[0]? = w.heap[0]? := k.block 0 (lt_of_heap h1) fun h => h
  refine ⟨⟨t, f, e1.trans h1⟩, m, ?_⟩
  simp only [World.cell?] at h2 ⊢
  cases hb : w.heap[1]? with
  | none => rw [hb] at h2; cases h2
  | some x =>
    have e2 : w'.heap[1]? = w.heap[1]? := k.block 1 (lt_of_heap hb) fun h => h
    rw [e2]; exact h2
theorem Gs.drew {w : World} (h : Gs w) : Gs w.drew := h.ext (Keep.refl _ w).drew
def pow10n : String := Go.Proofs.YtladakljimlodaaDoor.Rows.strongboxPricedRow.named.headD default
theorem gPow : Tryd.prog.globalNamed pow10n = some 0 := by kernel_rfl
theorem Gs.is {w : World} (h : Gs w) : Lib.TabIs Tryd.prog w pow10n .u64 Lib.pow10Tab := by
  obtain ⟨t, f, h1⟩ := h.tab
  unfold Lib.TabIs World.var?
  rw [gPow]
  simp only [Option.bind_some, h1]
theorem FormatInt_ok (w : World) (n : Nat) (hn : n ≤ 9223372036854775807) (G : Gs w) : Calls Tryd.prog 12 #[.int .i64 (n : Int), .int .i64 10] w (Ret fun u w' => u = .string (sb (Lib.decDigits n)) ∧ Ext w w') :=
  (Any.strconv_FormatInt_10 Tryd.lays173 (n : Int) (by omega) (by omega) w G.is).mono fun e w' ⟨he, k, os, hw⟩ => ⟨_, he, by
    rw [Lib.itoa, if_neg (by omega), Int.toNat_natCast]; rfl, by subst hw; exact ext_grow w k os⟩
theorem ParseInt_ok (w : World) (l : List UInt8) (v : Int) (hl : l.length ≤ 1000000) (h : Lib.atoiAll l = .ok v) : Calls Tryd.prog 16 #[.string (sb l), .int .i64 10, .int .i64 64] w (Ret fun u w' => u = .tuple #[.int .i64 v, .nilIface] ∧ Ext w w') :=
  (Any.strconv_ParseInt_10_at64_ok Tryd.lays174 (sb l) (by rw [sb_size]; omega) v (by rw [Lib.parseIntB_64]; exact h) w).mono fun e w' ⟨he, hw⟩ => ⟨_, he, rfl, by
    rcases hw with rfl | ⟨t, rfl⟩
    · exact Keep.refl _ _
    · exact ext_bytes _ _ _⟩
theorem Cut_ok (w : World) (l m : List UInt8) (hd : ∀ c ∈ l, isDig c) (hl : l.length + m.length ≤ 1000000) (G : Gs w) : Calls Tryd.prog 14 #[.string (sb (l ++ 46 :: m)), .string (sb [46])] w (Ret fun u w' => u = .tuple #[.string (sb l), .string (sb m), .bool true] ∧ Ext w w') := by
  obtain ⟨mx, hm⟩ := G.mx
  refine (Any.strings_Cut Tryd.lays145 (sb (l ++ 46 :: m)) (sb [46]) mx w (by rw [sb_size, List.length_append, List.length_cons]; omega) hm).mono fun e w' ⟨he, n, hw⟩ => ⟨_, he, ?_, ?_⟩
  · have e1 : (sb (l ++ 46 :: m)).data.toList = l ++ 46 :: m := rfl
    have e2 : (sb [46]).data.toList = [46] := rfl
    rw [e1, e2, cut_dot l m hd]
    rfl
  · subst hw
    exact ⟨rfl, rfl, rfl, Nat.le_refl _, fun _ _ _ => rfl⟩
theorem Repeat_ok (w : World) (l : List UInt8) : Calls Tryd.prog 17 #[.string (sb l), .int .i64 0] w (Ret fun u w' => u = .string (sb []) ∧ w' = w) :=
  (Any.strings_Repeat_zero Tryd.lays105 (sb l) w).mono fun e w' ⟨he, hw⟩ => ⟨_, he, rfl, hw⟩
end Go.Proofs
