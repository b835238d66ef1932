/- Worlds that the shelf's contracts leave: what was there stays. -/
import Derived.Test.YtladakljimlodaaDoorVcH
import Derived.Sort.Grow
import Derived.Lib.ConvBytes
import Derived.Deep.Draws
set_option linter.unusedSimpArgs false
set_option linter.unusedVariables false
set_option linter.constructorNameAsVariable false
namespace Go.Proofs
open Go.Vc

theorem ext_grow (w : World) (k : Nat) (os : Array Obj) : Ext w (Sort.grow (w.drewN k) os) :=
  ⟨rfl, rfl, rfl, by show w.heap.size ≤ (w.heap ++ os).size; rw [Array.size_append]; omega, fun i hi _ => by
    show (w.heap ++ os)[i]? = w.heap[i]?
    rw [Array.getElem?_append_left hi]⟩
theorem keep_freeze (w : World) (a : Addr) (n : Nat) : Keep (fun i => i = a.block) w (w.freeze a n) := by
  unfold World.freeze
  split
  · exact Keep.refl _ w
  · exact ⟨rfl, rfl, rfl, by simp, fun i hi hs => by simp [Array.getElem?_modify, Ne.symm hs]⟩
theorem ext_bytes (w : World) (e : TypeId) (s : ByteArray) : Ext w (Lib.bytesWorld w e s) := by
  unfold Lib.bytesWorld
  have h1 : Ext w (w.drew.alloc (.cells (Lib.bytesCells w e s) e)) := (Keep.refl _ w).drew.alloc _
  exact h1.trans (keep_freeze _ _ _) fun i hi hs => by simp at hs; omega
end Go.Proofs
