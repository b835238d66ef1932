/- Spare room, and what was kept. -/
import Derived.Test.YthjgmajfkfhdaaaDM
set_option linter.unusedSimpArgs false
set_option linter.unusedVariables false
set_option linter.constructorNameAsVariable false
namespace Go.Proofs
open Go.Vc
set_option maxRecDepth 10000

/-- What lies in a block with spare room behind. -/
def tailF (n : Nat) : List Int := (List.range 9).map fun t => ((201 + (n + t : Nat) : Int) % 256)
def spareF (bs : List Int) : List Int := bs ++ tailF bs.length
theorem spareF_len (bs : List Int) : (spareF bs).length = bs.length + 9 := by simp [spareF, tailF]
theorem spareF_byt {bs : List Int} (h : byt bs) : byt (spareF bs) := by
  refine byt_app h fun x hx => ?_
  simp only [tailF, List.mem_map] at hx
  obtain ⟨t, _, rfl⟩ := hx
  omega
theorem spareF_at (bs : List Int) {i : Nat} (h : i < bs.length + 9) : (spareF bs)[i]? = some (if h : i < bs.length then bs[i] else (201 + (i : Int)) % 256) := by
  by_cases hi : i < bs.length
  · rw [dif_pos hi, spareF, List.getElem?_append_left hi, List.getElem?_eq_getElem hi]
  · rw [dif_neg hi, spareF, List.getElem?_append_right (by omega), tailF, List.getElem?_map, List.getElem?_range (by omega)]
    simp only [Option.map_some]
    congr 3; omega
theorem take_snoc {l : List Int} {i : Nat} (h : i < l.length) : l.take (i + 1) = l.take i ++ [l[i]] := by
  rw [List.take_add_one, List.getElem?_eq_getElem h]; rfl
theorem set_mid (a rest : List Int) (x y : Int) : (a ++ y :: rest).set a.length x = a ++ x :: rest := by simp
theorem Own1.set1 {w : World} {g n c : Nat} {bs : List Int} (h : Own1 w (.slice (some ⟨g, 0, none⟩) n c) bs) {i : Nat} (hi : i < bs.length) (x : Int) :
    wr1 w g i ∧ Own1 (w.setCell ⟨g, i, none⟩ (.int .u8 x)) (.slice (some ⟨g, 0, none⟩) n c) (bs.set i x) := by
  obtain ⟨g', c', e, h1, h2⟩ := h.set hi x
  injection e with e1 e2 e3
  cases e1
  exact ⟨h1, h2⟩
theorem mkB {w : World} {m : Nat} {K : Value → World → Prop} (hm : m ≤ 1000000000) (hk : ∀ w', Own1 w' (.slice (some ⟨w.heap.size, 0, none⟩) m m) (List.replicate m 0) → Ext w w' → K (.slice (some ⟨w.heap.size, 0, none⟩) m m) w') :
    mkSV 5 1 1 (runs [(1, Value.int .u8 0)]) (.int .i64 (m : Nat)) (.int .i64 (m : Nat)) w K := by
  refine ⟨by omega, by omega, by omega, by omega, rfl, ?_⟩
  have hml : maxLen = 9223372036854775807 := rfl
  rw [Int.toNat_natCast]
  refine hk _ ?_ ((Keep.refl _ w).alloc _)
  have h := own_lit1 (w := w) (bs := List.replicate m 0) (by simp; omega)
  have e1 : bv (List.replicate m 0) = zrep m (runs [(1, Value.int .u8 0)]) := by
    rw [show runs [(1, Value.int .u8 0)] = [Value.int .u8 0] from rfl, zrep_one, bv, List.map_replicate]
  rw [e1] at h
  simpa using h
end Go.Proofs
