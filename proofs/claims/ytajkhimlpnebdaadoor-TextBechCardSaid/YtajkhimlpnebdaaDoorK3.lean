/- 'strongboxlaw03.TextBech' returns true for every input, and the input reads as it did; what its listed variables hold is tied to the program's text. No condition. -/
import Derived.Test.YtajkhimlpnebdaaDoorK2
import Derived.Test.YtajkhimlpnebdaaDoorCards
import Derived.Test.YtajkhimlpnebdaaDoorRows
import Derived.Test.YtajkhimlpnebdaaDoorTie
set_option linter.unusedSimpArgs false
set_option linter.unusedVariables false
set_option linter.constructorNameAsVariable false
namespace Go.Proofs
open Go.Shelf
def Tryd.lays158_ren : Go.Shelf.Ren := ⟨fun | 158 => 49 | 165 => 58 | 166 => 59 | 167 => 45 | 169 => 46 | 230 => 60 | 203 => 62 | 240 => 57 | 241 => 67 | 197 => 68 | 118 => 69 | 168 => 70 | 270 => 71 | 262 => 72 | 276 => 66 | 277 => 54 | 260 => 73 | 242 => 74 | 313 => 75 | 278 => 76 | 274 => 77 | 275 => 78 | n => n, fun | 9 => 9 | 4 => 4 | 3 => 3 | 5 => 5 | 72 => 75 | 0 => 0 | 76 => 89 | 75 => 77 | 107 => 92 | 70 => 73 | 20 => 20 | 37 => 22 | 127 => 87 | 21 => 21 | 105 => 100 | 164 => 98 | 162 => 109 | 203 => 107 | 119 => 110 | 46 => 60 | 139 => 113 | 138 => 112 | 51 => 93 | 160 => 114 | 208 => 120 | 206 => 118 | 80 => 79 | n => n, fun | 13 => 1 | 3 => 2 | 4 => 3 | n => n⟩
theorem Tryd.lays158 : Go.Proofs.Lays.n158 Tryd.prog Tryd.lays158_ren := {
  mixed := by kernel_rfl
  f118 := Tryd.func69.trans (congrArg some (by kernel_rfl))
  f158 := Tryd.func49.trans (congrArg some (by kernel_rfl))
  f165 := Tryd.func58.trans (congrArg some (by kernel_rfl))
  f166 := Tryd.func59.trans (congrArg some (by kernel_rfl))
  f167 := Tryd.func45.trans (congrArg some (by kernel_rfl))
  f168 := Tryd.func70.trans (congrArg some (by kernel_rfl))
  f169 := Tryd.func46.trans (congrArg some (by kernel_rfl))
  f197 := Tryd.func68.trans (congrArg some (by kernel_rfl))
  f203 := Tryd.func62.trans (congrArg some (by kernel_rfl))
  f230 := Tryd.func60.trans (congrArg some (by kernel_rfl))
  f240 := Tryd.func57.trans (congrArg some (by kernel_rfl))
  f241 := Tryd.func67.trans (congrArg some (by kernel_rfl))
  f242 := Tryd.func74.trans (congrArg some (by kernel_rfl))
  f260 := Tryd.func73.trans (congrArg some (by kernel_rfl))
  f262 := Tryd.func72.trans (congrArg some (by kernel_rfl))
  f270 := Tryd.func71.trans (congrArg some (by kernel_rfl))
  f274 := Tryd.func77.trans (congrArg some (by kernel_rfl))
  f275 := Tryd.func78.trans (congrArg some (by kernel_rfl))
  f276 := Tryd.func66.trans (congrArg some (by kernel_rfl))
  f277 := Tryd.func54.trans (congrArg some (by kernel_rfl))
  f278 := Tryd.func76.trans (congrArg some (by kernel_rfl))
  f313 := Tryd.func75.trans (congrArg some (by kernel_rfl))
  t0 := Tryd.underlying0
  a0 := Tryd.isAgg0
  z0 := Tryd.sizeOf0
  v0 := Tryd.zeroValue0
  t3 := Tryd.underlying3
  a3 := Tryd.isAgg3
  z3 := Tryd.sizeOf3
  v3 := Tryd.zeroValue3
  t4 := Tryd.underlying4
  a4 := Tryd.isAgg4
  z4 := Tryd.sizeOf4
  v4 := Tryd.zeroValue4
  t5 := Tryd.underlying5
  a5 := Tryd.isAgg5
  z5 := Tryd.sizeOf5
  v5 := Tryd.zeroValue5
  t9 := Tryd.underlying9
  a9 := Tryd.isAgg9
  z9 := Tryd.sizeOf9
  v9 := Tryd.zeroValue9
  t20 := Tryd.underlying20
  a20 := Tryd.isAgg20
  z20 := Tryd.sizeOf20
  v20 := Tryd.zeroValue20
  t21 := Tryd.underlying21
  a21 := Tryd.isAgg21
  z21 := Tryd.sizeOf21
  v21 := Tryd.zeroValue21
  t37 := Tryd.underlying22
  a37 := Tryd.isAgg22
  z37 := Tryd.sizeOf22
  v37 := Tryd.zeroValue22
  t46 := Tryd.underlying60
  a46 := Tryd.isAgg60
  z46 := Tryd.sizeOf60
  v46 := Tryd.zeroValue60
  t51 := Tryd.underlying93
  a51 := Tryd.isAgg93
  z51 := Tryd.sizeOf93
  v51 := Tryd.zeroValue93
  t70 := Tryd.underlying73
  a70 := Tryd.isAgg73
  z70 := Tryd.sizeOf73
  v70 := Tryd.zeroValue73
  t72 := Tryd.underlying75
  a72 := Tryd.isAgg75
  z72 := Tryd.sizeOf75
  v72 := Tryd.zeroValue75
  t75 := Tryd.underlying77
  a75 := Tryd.isAgg77
  z75 := Tryd.sizeOf77
  v75 := Tryd.zeroValue77
  t76 := Tryd.underlying89
  a76 := Tryd.isAgg89
  z76 := Tryd.sizeOf89
  v76 := Tryd.zeroValue89
  t105 := Tryd.underlying100
  a105 := Tryd.isAgg100
  z105 := Tryd.sizeOf100
  v105 := Tryd.zeroValue100
  t107 := Tryd.underlying92
  a107 := Tryd.isAgg92
  z107 := Tryd.sizeOf92
  v107 := Tryd.zeroValue92
  t119 := Tryd.underlying110
  a119 := Tryd.isAgg110
  z119 := Tryd.sizeOf110
  t127 := Tryd.underlying87
  a127 := Tryd.isAgg87
  z127 := Tryd.sizeOf87
  v127 := Tryd.zeroValue87
  t138 := Tryd.underlying112
  a138 := Tryd.isAgg112
  z138 := Tryd.sizeOf112
  v138 := Tryd.zeroValue112
  t139 := Tryd.underlying113
  a139 := Tryd.isAgg113
  z139 := Tryd.sizeOf113
  v139 := Tryd.zeroValue113
  t160 := Tryd.underlying114
  a160 := Tryd.isAgg114
  z160 := Tryd.sizeOf114
  v160 := Tryd.zeroValue114
  t162 := Tryd.underlying109
  a162 := Tryd.isAgg109
  z162 := Tryd.sizeOf109
  v162 := Tryd.zeroValue109
  t164 := Tryd.underlying98
  a164 := Tryd.isAgg98
  z164 := Tryd.sizeOf98
  v164 := Tryd.zeroValue98
  t203 := Tryd.underlying107
  a203 := Tryd.isAgg107
  z203 := Tryd.sizeOf107
  v203 := Tryd.zeroValue107
  t206 := Tryd.underlying118
  a206 := Tryd.isAgg118
  z206 := Tryd.sizeOf118
  v206 := Tryd.zeroValue118
  t208 := Tryd.underlying120
  a208 := Tryd.isAgg120
  z208 := Tryd.sizeOf120
  v208 := Tryd.zeroValue120
  g3 := by kernel_rfl
  g4 := by kernel_rfl
  g13 := by kernel_rfl }
theorem Tryd.Builder_Extra_158 : Builder.Extra Tryd.prog Tryd.lays158_ren := {
  sizeBuilder := by kernel_rfl
  liesBuilder := by kernel_rfl
  t5 := Tryd.underlying5
  a5 := Tryd.isAgg5
  z5 := Tryd.sizeOf5
  v5 := Tryd.zeroValue5
  infoByte := by kernel_rfl
  cellsByte := by kernel_rfl
  sizeByte := by kernel_rfl
  neB5 := by decide }
def Tryd.lays159_ren : Go.Shelf.Ren := ⟨fun | 159 => 48 | 165 => 58 | 166 => 59 | 167 => 45 | 169 => 46 | 230 => 60 | 204 => 61 | 240 => 57 | 241 => 67 | 197 => 68 | 118 => 69 | 168 => 70 | 270 => 71 | 262 => 72 | 276 => 66 | 277 => 54 | 260 => 73 | 242 => 74 | 313 => 75 | 278 => 76 | 274 => 77 | 275 => 78 | n => n, fun | 9 => 9 | 4 => 4 | 3 => 3 | 5 => 5 | 72 => 75 | 0 => 0 | 76 => 89 | 75 => 77 | 107 => 92 | 70 => 73 | 20 => 20 | 37 => 22 | 127 => 87 | 21 => 21 | 105 => 100 | 164 => 98 | 162 => 109 | 203 => 107 | 119 => 110 | 46 => 60 | 139 => 113 | 138 => 112 | 51 => 93 | 160 => 114 | 208 => 120 | 206 => 118 | 80 => 79 | n => n, fun | 13 => 1 | 3 => 2 | 4 => 3 | n => n⟩
theorem Tryd.lays159 : Go.Proofs.Lays.n159 Tryd.prog Tryd.lays159_ren := {
  mixed := by kernel_rfl
  f118 := Tryd.func69.trans (congrArg some (by kernel_rfl))
  f159 := Tryd.func48.trans (congrArg some (by kernel_rfl))
  f165 := Tryd.func58.trans (congrArg some (by kernel_rfl))
  f166 := Tryd.func59.trans (congrArg some (by kernel_rfl))
  f167 := Tryd.func45.trans (congrArg some (by kernel_rfl))
  f168 := Tryd.func70.trans (congrArg some (by kernel_rfl))
  f169 := Tryd.func46.trans (congrArg some (by kernel_rfl))
  f197 := Tryd.func68.trans (congrArg some (by kernel_rfl))
  f204 := Tryd.func61.trans (congrArg some (by kernel_rfl))
  f230 := Tryd.func60.trans (congrArg some (by kernel_rfl))
  f240 := Tryd.func57.trans (congrArg some (by kernel_rfl))
  f241 := Tryd.func67.trans (congrArg some (by kernel_rfl))
  f242 := Tryd.func74.trans (congrArg some (by kernel_rfl))
  f260 := Tryd.func73.trans (congrArg some (by kernel_rfl))
  f262 := Tryd.func72.trans (congrArg some (by kernel_rfl))
  f270 := Tryd.func71.trans (congrArg some (by kernel_rfl))
  f274 := Tryd.func77.trans (congrArg some (by kernel_rfl))
  f275 := Tryd.func78.trans (congrArg some (by kernel_rfl))
  f276 := Tryd.func66.trans (congrArg some (by kernel_rfl))
  f277 := Tryd.func54.trans (congrArg some (by kernel_rfl))
  f278 := Tryd.func76.trans (congrArg some (by kernel_rfl))
  f313 := Tryd.func75.trans (congrArg some (by kernel_rfl))
  t0 := Tryd.underlying0
  a0 := Tryd.isAgg0
  z0 := Tryd.sizeOf0
  v0 := Tryd.zeroValue0
  t3 := Tryd.underlying3
  a3 := Tryd.isAgg3
  z3 := Tryd.sizeOf3
  v3 := Tryd.zeroValue3
  t4 := Tryd.underlying4
  a4 := Tryd.isAgg4
  z4 := Tryd.sizeOf4
  v4 := Tryd.zeroValue4
  t5 := Tryd.underlying5
  a5 := Tryd.isAgg5
  z5 := Tryd.sizeOf5
  v5 := Tryd.zeroValue5
  t9 := Tryd.underlying9
  a9 := Tryd.isAgg9
  z9 := Tryd.sizeOf9
  v9 := Tryd.zeroValue9
  t20 := Tryd.underlying20
  a20 := Tryd.isAgg20
  z20 := Tryd.sizeOf20
  v20 := Tryd.zeroValue20
  t21 := Tryd.underlying21
  a21 := Tryd.isAgg21
  z21 := Tryd.sizeOf21
  v21 := Tryd.zeroValue21
  t37 := Tryd.underlying22
  a37 := Tryd.isAgg22
  z37 := Tryd.sizeOf22
  v37 := Tryd.zeroValue22
  t46 := Tryd.underlying60
  a46 := Tryd.isAgg60
  z46 := Tryd.sizeOf60
  v46 := Tryd.zeroValue60
  t51 := Tryd.underlying93
  a51 := Tryd.isAgg93
  z51 := Tryd.sizeOf93
  v51 := Tryd.zeroValue93
  t70 := Tryd.underlying73
  a70 := Tryd.isAgg73
  z70 := Tryd.sizeOf73
  v70 := Tryd.zeroValue73
  t72 := Tryd.underlying75
  a72 := Tryd.isAgg75
  z72 := Tryd.sizeOf75
  v72 := Tryd.zeroValue75
  t75 := Tryd.underlying77
  a75 := Tryd.isAgg77
  z75 := Tryd.sizeOf77
  v75 := Tryd.zeroValue77
  t76 := Tryd.underlying89
  a76 := Tryd.isAgg89
  z76 := Tryd.sizeOf89
  v76 := Tryd.zeroValue89
  t105 := Tryd.underlying100
  a105 := Tryd.isAgg100
  z105 := Tryd.sizeOf100
  v105 := Tryd.zeroValue100
  t107 := Tryd.underlying92
  a107 := Tryd.isAgg92
  z107 := Tryd.sizeOf92
  v107 := Tryd.zeroValue92
  t119 := Tryd.underlying110
  a119 := Tryd.isAgg110
  z119 := Tryd.sizeOf110
  t127 := Tryd.underlying87
  a127 := Tryd.isAgg87
  z127 := Tryd.sizeOf87
  v127 := Tryd.zeroValue87
  t138 := Tryd.underlying112
  a138 := Tryd.isAgg112
  z138 := Tryd.sizeOf112
  v138 := Tryd.zeroValue112
  t139 := Tryd.underlying113
  a139 := Tryd.isAgg113
  z139 := Tryd.sizeOf113
  v139 := Tryd.zeroValue113
  t160 := Tryd.underlying114
  a160 := Tryd.isAgg114
  z160 := Tryd.sizeOf114
  v160 := Tryd.zeroValue114
  t162 := Tryd.underlying109
  a162 := Tryd.isAgg109
  z162 := Tryd.sizeOf109
  v162 := Tryd.zeroValue109
  t164 := Tryd.underlying98
  a164 := Tryd.isAgg98
  z164 := Tryd.sizeOf98
  v164 := Tryd.zeroValue98
  t203 := Tryd.underlying107
  a203 := Tryd.isAgg107
  z203 := Tryd.sizeOf107
  v203 := Tryd.zeroValue107
  t206 := Tryd.underlying118
  a206 := Tryd.isAgg118
  z206 := Tryd.sizeOf118
  v206 := Tryd.zeroValue118
  t208 := Tryd.underlying120
  a208 := Tryd.isAgg120
  z208 := Tryd.sizeOf120
  v208 := Tryd.zeroValue120
  g3 := by kernel_rfl
  g4 := by kernel_rfl
  g13 := by kernel_rfl }
theorem Tryd.Builder_Extra_159 : Builder.Extra Tryd.prog Tryd.lays159_ren := {
  sizeBuilder := by kernel_rfl
  liesBuilder := by kernel_rfl
  t5 := Tryd.underlying5
  a5 := Tryd.isAgg5
  z5 := Tryd.sizeOf5
  v5 := Tryd.zeroValue5
  infoByte := by kernel_rfl
  cellsByte := by kernel_rfl
  sizeByte := by kernel_rfl
  neB5 := by decide }
def Tryd.lays149_ren : Go.Shelf.Ren := ⟨fun | 149 => 32 | 222 => 50 | n => n, fun | 9 => 9 | 5 => 5 | 3 => 3 | 4 => 4 | n => n, fun | n => n⟩
theorem Tryd.lays149 : Go.Proofs.Lays.n149 Tryd.prog Tryd.lays149_ren := {
  mixed := by kernel_rfl
  f149 := Tryd.func32.trans (congrArg some (by kernel_rfl))
  f222 := Tryd.func50.trans (congrArg some (by kernel_rfl))
  t3 := Tryd.underlying3
  a3 := Tryd.isAgg3
  z3 := Tryd.sizeOf3
  v3 := Tryd.zeroValue3
  t4 := Tryd.underlying4
  a4 := Tryd.isAgg4
  z4 := Tryd.sizeOf4
  v4 := Tryd.zeroValue4
  t5 := Tryd.underlying5
  a5 := Tryd.isAgg5
  z5 := Tryd.sizeOf5
  v5 := Tryd.zeroValue5
  t9 := Tryd.underlying9
  a9 := Tryd.isAgg9
  z9 := Tryd.sizeOf9
  v9 := Tryd.zeroValue9 }
end Go.Proofs
namespace Go.Proofs
open Go.Vc
set_option maxRecDepth 10000

theorem ext_below {w w' : World} (h : Go.RowKit.Below w.heap.size w w') : Ext w w' := ⟨h.os, h.tape, h.output, h.size, fun k hk _ => h.block k hk⟩
theorem strOf_list (bs : List Int) : (strOf bs).data.toList = bs.map fun m => UInt8.ofNat m.toNat := rfl
def asc (bs : List Int) : Prop := ∀ b ∈ bs, 0 ≤ b ∧ b < 128
theorem asc_at {bs : List Int} (h : asc bs) (j : Nat) (b : UInt8) (hj : (strOf bs).data.toList[j]? = some b) : b.toNat < 128 := by
  rw [strOf_list, List.getElem?_map] at hj
  obtain ⟨x, hx, rfl⟩ := Option.map_eq_some_iff.1 hj
  have := h x (List.mem_of_getElem? hx)
  rw [UInt8.toNat_ofNat']; omega
theorem lower_at {x : Int} (h : 0 ≤ x ∧ x < 128) : Lib.lowerB (UInt8.ofNat x.toNat) = UInt8.ofNat (lwF x).toNat := by
  have hd : ∀ n : Fin 128, Lib.lowerB (UInt8.ofNat (((n.val : Nat) : Int)).toNat) = UInt8.ofNat (lwF ((n.val : Nat) : Int)).toNat := by decide +kernel
  obtain ⟨n, rfl⟩ : ∃ n : Nat, x = (n : Int) := ⟨x.toNat, by omega⟩
  exact hd ⟨n, by omega⟩
theorem upper_at {x : Int} (h : 0 ≤ x ∧ x < 128) : Lib.upperB (UInt8.ofNat x.toNat) = UInt8.ofNat (upF x).toNat := by
  have hd : ∀ n : Fin 128, Lib.upperB (UInt8.ofNat (((n.val : Nat) : Int)).toNat) = UInt8.ofNat (upF ((n.val : Nat) : Int)).toNat := by decide +kernel
  obtain ⟨n, rfl⟩ : ∃ n : Nat, x = (n : Int) := ⟨x.toNat, by omega⟩
  exact hd ⟨n, by omega⟩
theorem str_map {bs : List Int} {f : UInt8 → UInt8} {g : Int → Int} (h : ∀ x ∈ bs, f (UInt8.ofNat x.toNat) = UInt8.ofNat (g x).toNat) : (⟨((strOf bs).data.toList.map f).toArray⟩ : ByteArray) = strOf (bs.map g) := by
  rw [strOf_list, List.map_map]
  unfold strOf
  rw [List.map_map]
  congr 2
  exact List.map_congr_left fun x hx => h x hx
theorem lower_ok (w : World) (bs : List Int) (h : asc bs) (hl : bs.length ≤ 1000000) : Calls Tryd.prog 48 #[.string (strOf bs)] w (Ret fun u w' => u = .string (strOf (bs.map lwF)) ∧ Ext w w') :=
  (Any.strings_ToLower_ascii Tryd.lays159 Tryd.Builder_Extra_159 (strOf bs) w (by rw [str_size]; omega) (asc_at h)).mono fun e w' ⟨he, hb⟩ => ⟨_, he, by
    rw [← str_map (f := Lib.lowerB) fun x hx => lower_at (h x hx)]; rfl, ext_below hb⟩
theorem upper_ok (w : World) (bs : List Int) (h : asc bs) (hl : bs.length ≤ 1000000) : Calls Tryd.prog 49 #[.string (strOf bs)] w (Ret fun u w' => u = .string (strOf (bs.map upF)) ∧ Ext w w') :=
  (Any.strings_ToUpper_ascii Tryd.lays158 Tryd.Builder_Extra_158 (strOf bs) w (by rw [str_size]; omega) (asc_at h)).mono fun e w' ⟨he, hb⟩ => ⟨_, he, by
    rw [← str_map (f := Lib.upperB) fun x hx => upper_at (h x hx)]; rfl, ext_below hb⟩
theorem lastF_spec : ∀ (l : List Int) (k : Nat), (lastF l k = -1 ∧ ∀ x ∈ l, x ≠ 49) ∨ ∃ i : Nat, i < l.length ∧ lastF l k = ((k + i : Nat) : Int) ∧ l[i]? = some 49 ∧ ∀ j, i < j → j < l.length → l[j]? ≠ some 49
  | [], k => .inl ⟨rfl, fun x h => by cases h⟩
  | b :: l, k => by
    rcases lastF_spec l (k + 1) with ⟨h1, h2⟩ | ⟨i, h1, h2, h3, h4⟩
    · by_cases hb : b = 49
      · refine .inr ⟨0, by simp, by rw [lastF, if_neg (by omega), if_pos hb]; rfl, by simp [hb], fun j hj hl => ?_⟩
        obtain ⟨j, rfl⟩ : ∃ n, j = n + 1 := ⟨j - 1, by omega⟩
        simp only [List.getElem?_cons_succ]
        intro hc
        exact h2 49 (List.mem_of_getElem? hc) rfl
      · refine .inl ⟨by rw [lastF, if_neg (by omega), if_neg hb], fun x hx => ?_⟩
        rcases List.mem_cons.1 hx with rfl | hx
        · exact hb
        · exact h2 x hx
    · refine .inr ⟨i + 1, by simp; omega, by rw [lastF, if_pos (by omega), h2]; omega, by simpa using h3, fun j hj hl => ?_⟩
      obtain ⟨j, rfl⟩ : ∃ n, j = n + 1 := ⟨j - 1, by omega⟩
      simp only [List.getElem?_cons_succ]
      exact h4 j (by omega) (by simpa using hl)
theorem at_is {bs : List Int} (hb : byt bs) {j : Nat} (hj : j < bs.length) : (((strOf bs).data[j]!).toNat : Int) = bs[j] := by
  have h1 : (strOf bs).data[j]! = UInt8.ofNat bs[j].toNat := by
    have : (strOf bs).data[j]? = some (UInt8.ofNat bs[j].toNat) := by simp [strOf, hj]
    rw [getElem!_def, this]
  rw [h1]
  exact u8i (hb bs[j] (List.getElem_mem _))
theorem last_is {bs : List Int} (hb : byt bs) : Lib.lastIndexByte (strOf bs) 49 = lastF bs 0 := by
  unfold Lib.lastIndexByte
  rw [str_size]
  rcases Lib.lastIdx_spec (strOf bs) 49 bs.length with ⟨h1, h2⟩ | ⟨i, h0, h1, h2, h3⟩ <;> rcases lastF_spec bs 0 with ⟨k1, k2⟩ | ⟨m, k0, k1, k2, k3⟩
  · rw [h1, k1]
  · exfalso
    refine h2 m k0 ?_
    rw [at_is hb k0]
    rw [List.getElem?_eq_getElem k0, Option.some.injEq] at k2
    exact k2
  · exfalso
    rw [at_is hb h0] at h2
    exact k2 bs[i] (List.getElem_mem _) h2
  · rw [h1, k1]
    rw [at_is hb h0] at h2
    rw [List.getElem?_eq_getElem k0, Option.some.injEq] at k2
    rcases Nat.lt_trichotomy i m with h | h | h
    · exact absurd (by rw [at_is hb k0]; exact k2) (h3 m h k0)
    · subst h; omega
    · exact absurd (by rw [List.getElem?_eq_getElem h0, h2]) (k3 i h h0)
theorem last_ok (w : World) (bs : List Int) (hb : byt bs) (hl : bs.length ≤ 1000000) : Calls Tryd.prog 32 #[.string (strOf bs), .int .u8 49] w (Ret fun u w' => u = .int .i64 (lastF bs 0) ∧ w' = w) :=
  (Any.strings_LastIndexByte Tryd.lays149 (strOf bs) 49 (by rw [str_size]; omega) w).mono fun e w' ⟨he, hw⟩ => ⟨_, he, by rw [last_is hb], hw⟩
def see (c : Int) : Bool := decide (33 ≤ c) && decide (c ≤ 126)
theorem lwF_b {x : Int} (h : 0 ≤ x ∧ x < 128) : 0 ≤ lwF x ∧ lwF x < 128 := by unfold lwF; split <;> omega
theorem upF_b {x : Int} (h : 0 ≤ x ∧ x < 128) : 0 ≤ upF x ∧ upF x < 128 := by unfold upF; split <;> omega
theorem asc_byt {l : List Int} (h : asc l) : byt l := fun x hx => by have := h x hx; omega
theorem asc_map {l : List Int} {f : Int → Int} (hf : ∀ {x : Int}, (0 ≤ x ∧ x < 128) → 0 ≤ f x ∧ f x < 128) (h : asc l) : asc (l.map f) := fun x hx => by
  obtain ⟨y, hy, rfl⟩ := List.mem_map.1 hx
  exact hf (h y hy)
theorem seen_asc {l : List Int} (h : seen l = true) : asc l := fun x hx => by
  have := List.all_eq_true.1 h x hx
  simp at this; omega
theorem plain_ok (w : World) (s : List Int) (hb : byt s) (hl : s.length ≤ 1000000) :
    Calls Tryd.prog 31 #[.string (strOf s)] w (Ret fun u w' => u = .tuple #[.string (strOf (plainE s).1), .bool (plainE s).2] ∧ Ext w w') := by
  refine calls_of_cfg c31_ok (Nat.le_of_ble_eq_true rfl) ?_
  simp only [argE_nil, argE_cons, Nat.reduceAdd, Nat.zero_add]
  have hsz := str_size s
  (refine W_at c31_ok ?_; refine ⟨_, rfl, ?_⟩; simp (disch := first | omega | assumption | rfl | (simp only [vcS] <;> omega) | fail) only [↓ptV_l, ↓vcA, vcB, ↓vcD, vcE, ↓reduceIte, Nat.reduceEqDiff, Nat.reduceAdd, Nat.reduceMul, Nat.reduceLeDiff, Int.reduceLE, Int.reduceLT, Int.reduceEq, Int.reduceToNat, Int.reduceAdd, Int.reduceSub, Int.reduceMul, Int.reduceNeg, reduceCtorEq, Option.bind_some, Option.map_some, List.length_cons, List.length_nil, vcM, List.getElem?_toArray, List.getElem?_cons_zero, List.getElem?_cons_succ])
  (refine W_at c31_ok ?_; refine ⟨_, rfl, ?_⟩; simp (disch := first | omega | assumption | rfl | (simp only [vcS] <;> omega) | fail) only [↓ptV_l, ↓vcA, vcB, ↓vcD, vcE, ↓reduceIte, Nat.reduceEqDiff, Nat.reduceAdd, Nat.reduceMul, Nat.reduceLeDiff, Int.reduceLE, Int.reduceLT, Int.reduceEq, Int.reduceToNat, Int.reduceAdd, Int.reduceSub, Int.reduceMul, Int.reduceNeg, reduceCtorEq, Option.bind_some, Option.map_some, List.length_cons, List.length_nil, vcM, List.getElem?_toArray, List.getElem?_cons_zero, List.getElem?_cons_succ, hsz])
  have L : ∀ (k i : Nat) (tl : Env), k + i = s.length → seen (s.take i) = true →
      W Tryd.prog (Ret fun u w' => u = .tuple #[.string (strOf (plainE s).1), .bool (plainE s).2] ∧ Ext w w') 31 12 ((0, .string (strOf s)) :: (7, .int .i64 s.length) :: (8, .int .i64 i) :: tl) w := by
    intro k
    induction k with
    | zero =>
      intro i tl hi hs
      have hil : ¬ ((i : Int) < (s.length : Int)) := by omega
      rw [List.take_of_length_le (by omega)] at hs
      have ha := seen_asc hs
      have hal := asc_map (fun {x} h => lwF_b (x := x) h) ha
      have hau := asc_map (fun {x} h => upF_b (x := x) h) ha
      rw [plainE, if_pos hs]
      have d1 : decide (strOf s = strOf (s.map lwF)) = decide (s = s.map lwF) := decide_eq_decide.2 (strOf_inj hb (asc_byt hal))
      have d2 : decide (strOf s = strOf (s.map upF)) = decide (s = s.map upF) := decide_eq_decide.2 (strOf_inj hb (asc_byt hau))
      (refine W_at c31_ok ?_; refine ⟨_, rfl, ?_⟩; simp (disch := first | omega | assumption | rfl | (simp only [vcS] <;> omega) | fail) only [↓ptV_l, ↓vcA, vcB, ↓vcD, vcE, ↓reduceIte, Nat.reduceEqDiff, Nat.reduceAdd, Nat.reduceMul, Nat.reduceLeDiff, Int.reduceLE, Int.reduceLT, Int.reduceEq, Int.reduceToNat, Int.reduceAdd, Int.reduceSub, Int.reduceMul, Int.reduceNeg, reduceCtorEq, Option.bind_some, Option.map_some, List.length_cons, List.length_nil, vcM, List.getElem?_toArray, List.getElem?_cons_zero, List.getElem?_cons_succ, hil])
      (refine W_at c31_ok ?_; refine ⟨_, rfl, ?_⟩; simp (disch := first | omega | assumption | rfl | (simp only [vcS] <;> omega) | fail) only [↓ptV_l, ↓vcA, vcB, ↓vcD, vcE, ↓reduceIte, Nat.reduceEqDiff, Nat.reduceAdd, Nat.reduceMul, Nat.reduceLeDiff, Int.reduceLE, Int.reduceLT, Int.reduceEq, Int.reduceToNat, Int.reduceAdd, Int.reduceSub, Int.reduceMul, Int.reduceNeg, reduceCtorEq, Option.bind_some, Option.map_some, List.length_cons, List.length_nil, vcM, List.getElem?_toArray, List.getElem?_cons_zero, List.getElem?_cons_succ])
      (refine W_at c31_ok ?_; refine ⟨_, rfl, ?_⟩; simp (disch := first | omega | assumption | rfl | (simp only [vcS] <;> omega) | fail) only [↓vcL1, ptS2_eq, ↓vcA, vcB, ↓vcD, vcE, ↓reduceIte, Nat.reduceEqDiff, Nat.reduceAdd, Nat.reduceMul, Nat.reduceLeDiff, Int.reduceLE, Int.reduceLT, Int.reduceEq, Int.reduceToNat, Int.reduceAdd, Int.reduceSub, Int.reduceMul, Int.reduceNeg, reduceCtorEq, Option.bind_some, Option.map_some, List.length_cons, List.length_nil, vcM, List.getElem?_toArray, List.getElem?_cons_zero, List.getElem?_cons_succ])
      refine callV_ret (lower_ok w s ha hl) ?_
      rintro _ w1 ⟨rfl, hE1⟩
      simp (disch := first | omega | assumption | rfl | (simp only [vcS] <;> omega) | fail) only [↓vcL2, ptS1_eq, ↓vcA, vcB, ↓vcD, vcE, ↓reduceIte, Nat.reduceEqDiff, Nat.reduceAdd, Nat.reduceMul, Nat.reduceLeDiff, Int.reduceLE, Int.reduceLT, Int.reduceEq, Int.reduceToNat, Int.reduceAdd, Int.reduceSub, Int.reduceMul, Int.reduceNeg, reduceCtorEq, Option.bind_some, Option.map_some, List.length_cons, List.length_nil, vcM, List.getElem?_toArray, List.getElem?_cons_zero, List.getElem?_cons_succ]
      by_cases hlo : s = s.map lwF
      · have t1 := decide_eq_true hlo
        rw [t1] at d1
        rw [t1]
        (refine W_at c31_ok ?_; refine ⟨_, rfl, ?_⟩; simp (disch := first | omega | assumption | rfl | (simp only [vcS] <;> omega) | fail) only [↓ptV_l, ↓vcA, vcB, ↓vcD, vcE, ↓reduceIte, Nat.reduceEqDiff, Nat.reduceAdd, Nat.reduceMul, Nat.reduceLeDiff, Int.reduceLE, Int.reduceLT, Int.reduceEq, Int.reduceToNat, Int.reduceAdd, Int.reduceSub, Int.reduceMul, Int.reduceNeg, reduceCtorEq, Option.bind_some, Option.map_some, List.length_cons, List.length_nil, vcM, List.getElem?_toArray, List.getElem?_cons_zero, List.getElem?_cons_succ, bin_seql, d1])
        (refine W_at c31_ok ?_; refine ⟨_, rfl, ?_⟩; simp (disch := first | omega | assumption | rfl | (simp only [vcS] <;> omega) | fail) only [↓ptV_l, ↓vcA, vcB, ↓vcD, vcE, ↓reduceIte, Nat.reduceEqDiff, Nat.reduceAdd, Nat.reduceMul, Nat.reduceLeDiff, Int.reduceLE, Int.reduceLT, Int.reduceEq, Int.reduceToNat, Int.reduceAdd, Int.reduceSub, Int.reduceMul, Int.reduceNeg, reduceCtorEq, Option.bind_some, Option.map_some, List.length_cons, List.length_nil, vcM, List.getElem?_toArray, List.getElem?_cons_zero, List.getElem?_cons_succ, Ret_returned])
        first | exact hE1 | exact ⟨rfl, hE1⟩
      · have t1 := decide_eq_false hlo
        rw [t1] at d1
        rw [t1]
        (refine W_at c31_ok ?_; refine ⟨_, rfl, ?_⟩; simp (disch := first | omega | assumption | rfl | (simp only [vcS] <;> omega) | fail) only [↓vcL1, ptS2_eq, ↓vcA, vcB, ↓vcD, vcE, ↓reduceIte, Nat.reduceEqDiff, Nat.reduceAdd, Nat.reduceMul, Nat.reduceLeDiff, Int.reduceLE, Int.reduceLT, Int.reduceEq, Int.reduceToNat, Int.reduceAdd, Int.reduceSub, Int.reduceMul, Int.reduceNeg, reduceCtorEq, Option.bind_some, Option.map_some, List.length_cons, List.length_nil, vcM, List.getElem?_toArray, List.getElem?_cons_zero, List.getElem?_cons_succ, bin_seql, d1])
        refine callV_ret (upper_ok w1 s ha hl) ?_
        rintro _ w2 ⟨rfl, hE2⟩
        have hE3 : Ext w w2 := hE1.ext hE2
        cases hup : decide (s = s.map upF) with
        | true =>
          rw [hup] at d2
          simp (disch := first | omega | assumption | rfl | (simp only [vcS] <;> omega) | fail) only [↓vcL2, ptS1_eq, ↓vcA, vcB, ↓vcD, vcE, ↓reduceIte, Nat.reduceEqDiff, Nat.reduceAdd, Nat.reduceMul, Nat.reduceLeDiff, Int.reduceLE, Int.reduceLT, Int.reduceEq, Int.reduceToNat, Int.reduceAdd, Int.reduceSub, Int.reduceMul, Int.reduceNeg, reduceCtorEq, Option.bind_some, Option.map_some, List.length_cons, List.length_nil, vcM, List.getElem?_toArray, List.getElem?_cons_zero, List.getElem?_cons_succ, bin_seql, d2]
          (refine W_at c31_ok ?_; refine ⟨_, rfl, ?_⟩; simp (disch := first | omega | assumption | rfl | (simp only [vcS] <;> omega) | fail) only [↓ptV_l, ↓vcA, vcB, ↓vcD, vcE, ↓reduceIte, Nat.reduceEqDiff, Nat.reduceAdd, Nat.reduceMul, Nat.reduceLeDiff, Int.reduceLE, Int.reduceLT, Int.reduceEq, Int.reduceToNat, Int.reduceAdd, Int.reduceSub, Int.reduceMul, Int.reduceNeg, reduceCtorEq, Option.bind_some, Option.map_some, List.length_cons, List.length_nil, vcM, List.getElem?_toArray, List.getElem?_cons_zero, List.getElem?_cons_succ, Ret_returned])
          first | exact hE3 | exact ⟨rfl, hE3⟩
        | false =>
          rw [hup] at d2
          simp (disch := first | omega | assumption | rfl | (simp only [vcS] <;> omega) | fail) only [↓vcL2, ptS1_eq, ↓vcA, vcB, ↓vcD, vcE, ↓reduceIte, Nat.reduceEqDiff, Nat.reduceAdd, Nat.reduceMul, Nat.reduceLeDiff, Int.reduceLE, Int.reduceLT, Int.reduceEq, Int.reduceToNat, Int.reduceAdd, Int.reduceSub, Int.reduceMul, Int.reduceNeg, reduceCtorEq, Option.bind_some, Option.map_some, List.length_cons, List.length_nil, vcM, List.getElem?_toArray, List.getElem?_cons_zero, List.getElem?_cons_succ, bin_seql, d2]
          (refine W_at c31_ok ?_; refine ⟨_, rfl, ?_⟩; simp (disch := first | omega | assumption | rfl | (simp only [vcS] <;> omega) | fail) only [↓ptV_l, ↓vcA, vcB, ↓vcD, vcE, ↓reduceIte, Nat.reduceEqDiff, Nat.reduceAdd, Nat.reduceMul, Nat.reduceLeDiff, Int.reduceLE, Int.reduceLT, Int.reduceEq, Int.reduceToNat, Int.reduceAdd, Int.reduceSub, Int.reduceMul, Int.reduceNeg, reduceCtorEq, Option.bind_some, Option.map_some, List.length_cons, List.length_nil, vcM, List.getElem?_toArray, List.getElem?_cons_zero, List.getElem?_cons_succ, Ret_returned])
          first | exact hE3 | exact ⟨rfl, hE3⟩
    | succ k ih =>
      intro i tl hi hs
      have hil : (i : Int) < (s.length : Int) := by omega
      have h0 : 0 ≤ (i : Int) := by omega
      have hwi : IntKind.i64.wrap ((i : Int) + 1) = ((i + 1 : Nat) : Int) := wrap_i64 (by omega) (by omega)
      have g1 := str_get (bs := s) (i := i) (by omega)
      have u1 := u8i (hb s[i] (List.getElem_mem _))
      have hmem : s[i] ∈ s := List.getElem_mem _
      have htk : seen (s.take (i + 1)) = (seen (s.take i) && see s[i]) := by
        rw [List.take_succ_eq_append_getElem (by omega), seen, seen, List.all_append]; simp [see]
      have hbad : see s[i] = false → seen s = false := fun h => by
        cases hss : seen s with
        | false => rfl
        | true =>
          have := List.all_eq_true.1 hss s[i] hmem
          unfold see at h; rw [h] at this; cases this
      have hout : see s[i] = false → ∀ tl, W Tryd.prog (Ret fun u w' => u = .tuple #[.string (strOf (plainE s).1), .bool (plainE s).2] ∧ Ext w w') 31 8 ((0, .string (strOf s)) :: (7, .int .i64 s.length) :: (8, .int .i64 i) :: (20, .bool true) :: tl) w := fun h tl => by
        rw [plainE, if_neg (by rw [hbad h]; decide)]
        (refine W_at c31_ok ?_; refine ⟨_, rfl, ?_⟩; simp (disch := first | omega | assumption | rfl | (simp only [vcS] <;> omega) | fail) only [↓ptV_l, ↓vcA, vcB, ↓vcD, vcE, ↓reduceIte, Nat.reduceEqDiff, Nat.reduceAdd, Nat.reduceMul, Nat.reduceLeDiff, Int.reduceLE, Int.reduceLT, Int.reduceEq, Int.reduceToNat, Int.reduceAdd, Int.reduceSub, Int.reduceMul, Int.reduceNeg, reduceCtorEq, Option.bind_some, Option.map_some, List.length_cons, List.length_nil, vcM, List.getElem?_toArray, List.getElem?_cons_zero, List.getElem?_cons_succ])
        (refine W_at c31_ok ?_; refine ⟨_, rfl, ?_⟩; simp (disch := first | omega | assumption | rfl | (simp only [vcS] <;> omega) | fail) only [↓ptV_l, ↓vcA, vcB, ↓vcD, vcE, ↓reduceIte, Nat.reduceEqDiff, Nat.reduceAdd, Nat.reduceMul, Nat.reduceLeDiff, Int.reduceLE, Int.reduceLT, Int.reduceEq, Int.reduceToNat, Int.reduceAdd, Int.reduceSub, Int.reduceMul, Int.reduceNeg, reduceCtorEq, Option.bind_some, Option.map_some, List.length_cons, List.length_nil, vcM, List.getElem?_toArray, List.getElem?_cons_zero, List.getElem?_cons_succ])
        (refine W_at c31_ok ?_; refine ⟨_, rfl, ?_⟩; simp (disch := first | omega | assumption | rfl | (simp only [vcS] <;> omega) | fail) only [↓ptV_l, ↓vcA, vcB, ↓vcD, vcE, ↓reduceIte, Nat.reduceEqDiff, Nat.reduceAdd, Nat.reduceMul, Nat.reduceLeDiff, Int.reduceLE, Int.reduceLT, Int.reduceEq, Int.reduceToNat, Int.reduceAdd, Int.reduceSub, Int.reduceMul, Int.reduceNeg, reduceCtorEq, Option.bind_some, Option.map_some, List.length_cons, List.length_nil, vcM, List.getElem?_toArray, List.getElem?_cons_zero, List.getElem?_cons_succ, Ret_returned])
        exact ⟨rfl, Keep.refl _ w⟩
      have hih := ih (i + 1)
      rw [htk, hs] at hih
      clear hbad htk hmem
      generalize s[i] = x at *
      (refine W_at c31_ok ?_; refine ⟨_, rfl, ?_⟩; simp (disch := first | omega | assumption | rfl | (simp only [vcS] <;> omega) | fail) only [↓ptV_l, ↓vcA, vcB, ↓vcD, vcE, ↓reduceIte, Nat.reduceEqDiff, Nat.reduceAdd, Nat.reduceMul, Nat.reduceLeDiff, Int.reduceLE, Int.reduceLT, Int.reduceEq, Int.reduceToNat, Int.reduceAdd, Int.reduceSub, Int.reduceMul, Int.reduceNeg, reduceCtorEq, Option.bind_some, Option.map_some, List.length_cons, List.length_nil, vcM, List.getElem?_toArray, List.getElem?_cons_zero, List.getElem?_cons_succ, hil])
      (refine W_at c31_ok ?_; refine ⟨_, rfl, ?_⟩; simp (disch := first | omega | assumption | rfl | (simp only [vcS] <;> omega) | fail) only [↓ptV_l, ↓vcA, vcB, ↓vcD, vcE, ↓reduceIte, Nat.reduceEqDiff, Nat.reduceAdd, Nat.reduceMul, Nat.reduceLeDiff, Int.reduceLE, Int.reduceLT, Int.reduceEq, Int.reduceToNat, Int.reduceAdd, Int.reduceSub, Int.reduceMul, Int.reduceNeg, reduceCtorEq, Option.bind_some, Option.map_some, List.length_cons, List.length_nil, vcM, List.getElem?_toArray, List.getElem?_cons_zero, List.getElem?_cons_succ])
      (refine W_at c31_ok ?_; refine ⟨_, rfl, ?_⟩; simp (disch := first | omega | assumption | rfl | (simp only [vcS] <;> omega) | fail) only [↓ptV_l, ↓vcA, vcB, ↓vcD, vcE, ↓reduceIte, Nat.reduceEqDiff, Nat.reduceAdd, Nat.reduceMul, Nat.reduceLeDiff, Int.reduceLE, Int.reduceLT, Int.reduceEq, Int.reduceToNat, Int.reduceAdd, Int.reduceSub, Int.reduceMul, Int.reduceNeg, reduceCtorEq, Option.bind_some, Option.map_some, List.length_cons, List.length_nil, vcM, List.getElem?_toArray, List.getElem?_cons_zero, List.getElem?_cons_succ])
      by_cases x1 : x < 33
      · (refine W_at c31_ok ?_; refine ⟨_, rfl, ?_⟩; simp (disch := first | omega | assumption | rfl | (simp only [vcS] <;> omega) | fail) only [↓ptV_l, ↓vcA, vcB, ↓vcD, vcE, ↓reduceIte, Nat.reduceEqDiff, Nat.reduceAdd, Nat.reduceMul, Nat.reduceLeDiff, Int.reduceLE, Int.reduceLT, Int.reduceEq, Int.reduceToNat, Int.reduceAdd, Int.reduceSub, Int.reduceMul, Int.reduceNeg, reduceCtorEq, Option.bind_some, Option.map_some, List.length_cons, List.length_nil, vcM, List.getElem?_toArray, List.getElem?_cons_zero, List.getElem?_cons_succ, h0, Int.toNat_natCast, g1, u1, x1])
        exact hout (by simp [see]; omega) _
      by_cases x2 : 126 < x
      · (refine W_at c31_ok ?_; refine ⟨_, rfl, ?_⟩; simp (disch := first | omega | assumption | rfl | (simp only [vcS] <;> omega) | fail) only [↓ptV_l, ↓vcA, vcB, ↓vcD, vcE, ↓reduceIte, Nat.reduceEqDiff, Nat.reduceAdd, Nat.reduceMul, Nat.reduceLeDiff, Int.reduceLE, Int.reduceLT, Int.reduceEq, Int.reduceToNat, Int.reduceAdd, Int.reduceSub, Int.reduceMul, Int.reduceNeg, reduceCtorEq, Option.bind_some, Option.map_some, List.length_cons, List.length_nil, vcM, List.getElem?_toArray, List.getElem?_cons_zero, List.getElem?_cons_succ, h0, Int.toNat_natCast, g1, u1, x1, x2])
        exact hout (by simp [see]; omega) _
      (refine W_at c31_ok ?_; refine ⟨_, rfl, ?_⟩; simp (disch := first | omega | assumption | rfl | (simp only [vcS] <;> omega) | fail) only [↓ptV_l, ↓vcA, vcB, ↓vcD, vcE, ↓reduceIte, Nat.reduceEqDiff, Nat.reduceAdd, Nat.reduceMul, Nat.reduceLeDiff, Int.reduceLE, Int.reduceLT, Int.reduceEq, Int.reduceToNat, Int.reduceAdd, Int.reduceSub, Int.reduceMul, Int.reduceNeg, reduceCtorEq, Option.bind_some, Option.map_some, List.length_cons, List.length_nil, vcM, List.getElem?_toArray, List.getElem?_cons_zero, List.getElem?_cons_succ, h0, Int.toNat_natCast, g1, u1, x1, x2])
      (refine W_at c31_ok ?_; refine ⟨_, rfl, ?_⟩; simp (disch := first | omega | assumption | rfl | (simp only [vcS] <;> omega) | fail) only [↓ptV_l, ↓vcA, vcB, ↓vcD, vcE, ↓reduceIte, Nat.reduceEqDiff, Nat.reduceAdd, Nat.reduceMul, Nat.reduceLeDiff, Int.reduceLE, Int.reduceLT, Int.reduceEq, Int.reduceToNat, Int.reduceAdd, Int.reduceSub, Int.reduceMul, Int.reduceNeg, reduceCtorEq, Option.bind_some, Option.map_some, List.length_cons, List.length_nil, vcM, List.getElem?_toArray, List.getElem?_cons_zero, List.getElem?_cons_succ])
      (refine W_at c31_ok ?_; refine ⟨_, rfl, ?_⟩; simp (disch := first | omega | assumption | rfl | (simp only [vcS] <;> omega) | fail) only [↓ptV_l, ↓vcA, vcB, ↓vcD, vcE, ↓reduceIte, Nat.reduceEqDiff, Nat.reduceAdd, Nat.reduceMul, Nat.reduceLeDiff, Int.reduceLE, Int.reduceLT, Int.reduceEq, Int.reduceToNat, Int.reduceAdd, Int.reduceSub, Int.reduceMul, Int.reduceNeg, reduceCtorEq, Option.bind_some, Option.map_some, List.length_cons, List.length_nil, vcM, List.getElem?_toArray, List.getElem?_cons_zero, List.getElem?_cons_succ, hwi])
      (refine W_at c31_ok ?_; refine ⟨_, rfl, ?_⟩; simp (disch := first | omega | assumption | rfl | (simp only [vcS] <;> omega) | fail) only [↓ptV_l, ↓vcA, vcB, ↓vcD, vcE, ↓reduceIte, Nat.reduceEqDiff, Nat.reduceAdd, Nat.reduceMul, Nat.reduceLeDiff, Int.reduceLE, Int.reduceLT, Int.reduceEq, Int.reduceToNat, Int.reduceAdd, Int.reduceSub, Int.reduceMul, Int.reduceNeg, reduceCtorEq, Option.bind_some, Option.map_some, List.length_cons, List.length_nil, vcM, List.getElem?_toArray, List.getElem?_cons_zero, List.getElem?_cons_succ])
      exact hih _ (by omega) (by simp [see]; omega)
  exact L s.length 0 _ (by omega) rfl
end Go.Proofs
namespace Go.Proofs
open Go.Vc
set_option maxRecDepth 10000

theorem U64_neq (x y : BitVec 64) : binR .neq (U64 x) (U64 y) = some (.bool (!decide (x = y))) := by
  unfold U64
  rw [bin_neq]
  congr 3
  rw [decide_eq_decide]
  constructor
  · intro h; exact BitVec.eq_of_toNat_eq (by omega)
  · rintro rfl; rfl
theorem slc3_n {q : Option Addr} {n c : Nat} (h : n ≤ c) : slc3R 1 none (.int .i64 n) (.int .i64 n) (.slice q n c) = some (.slice q n n) := by
  simp only [slc3R]
  rw [if_pos (by omega), Int.toNat_natCast]
theorem clip_ok (w : World) (v : Value) (bs : List Int) (h : Rd w v bs) : Calls Tryd.prog 34 #[v] w (Ret fun u w' => Rd w u bs ∧ w' = w) := by
  obtain ⟨⟨q, c, rfl, hc⟩, hm, hr⟩ := h
  refine calls_of_cfg c34_ok (Nat.le_of_ble_eq_true rfl) ?_
  simp only [argE_nil, argE_cons, Nat.reduceAdd, Nat.zero_add]
  have k0 := slc3_n (q := q) hc
  (refine W_at c34_ok ?_; refine ⟨_, rfl, ?_⟩; simp (disch := first | omega | assumption | rfl | (simp only [vcS] <;> omega) | fail) only [↓ptV_l, ↓vcA, vcB, ↓vcD, vcE, ↓reduceIte, Nat.reduceEqDiff, Nat.reduceAdd, Nat.reduceMul, Nat.reduceLeDiff, Int.reduceLE, Int.reduceLT, Int.reduceEq, Int.reduceToNat, Int.reduceAdd, Int.reduceSub, Int.reduceMul, Int.reduceNeg, reduceCtorEq, Option.bind_some, Option.map_some, List.length_cons, List.length_nil, vcM, List.getElem?_toArray, List.getElem?_cons_zero, List.getElem?_cons_succ])
  (refine W_at c34_ok ?_; refine ⟨_, rfl, ?_⟩; simp (disch := first | omega | assumption | rfl | (simp only [vcS] <;> omega) | fail) only [↓ptV_l, ↓vcA, vcB, ↓vcD, vcE, ↓reduceIte, Nat.reduceEqDiff, Nat.reduceAdd, Nat.reduceMul, Nat.reduceLeDiff, Int.reduceLE, Int.reduceLT, Int.reduceEq, Int.reduceToNat, Int.reduceAdd, Int.reduceSub, Int.reduceMul, Int.reduceNeg, reduceCtorEq, Option.bind_some, Option.map_some, List.length_cons, List.length_nil, vcM, List.getElem?_toArray, List.getElem?_cons_zero, List.getElem?_cons_succ, k0])
  (refine W_at c34_ok ?_; refine ⟨_, rfl, ?_⟩; simp (disch := first | omega | assumption | rfl | (simp only [vcS] <;> omega) | fail) only [↓ptV_l, ↓vcA, vcB, ↓vcD, vcE, ↓reduceIte, Nat.reduceEqDiff, Nat.reduceAdd, Nat.reduceMul, Nat.reduceLeDiff, Int.reduceLE, Int.reduceLT, Int.reduceEq, Int.reduceToNat, Int.reduceAdd, Int.reduceSub, Int.reduceMul, Int.reduceNeg, reduceCtorEq, Option.bind_some, Option.map_some, List.length_cons, List.length_nil, vcM, List.getElem?_toArray, List.getElem?_cons_zero, List.getElem?_cons_succ, Ret_returned])
  first | exact ⟨⟨_, _, rfl, Nat.le_refl _⟩, hm, hr⟩ | exact ⟨⟨⟨_, _, rfl, Nat.le_refl _⟩, hm, hr⟩, rfl⟩
def readR (r : Read) (x : Value) : Value := .tuple #[.string (strOf r.h), x, .bool r.m, .int .i64 r.e]
def ReadTo (w w' : World) (r : Read) (u : Value) : Prop := ∃ x, u = readR r x ∧ Rd w' x r.d ∧ Ext w w'
theorem noRead_to (w : World) (e : Int) : ReadTo w w (noRead e) (.tuple #[.string ⟨#[]⟩, .slice none 0 0, .bool false, .int .i64 e]) := ⟨_, rfl, Rd.nil w, Keep.refl _ w⟩
theorem noRead_ext {w w' : World} (h : Ext w w') (e : Int) : ReadTo w w' (noRead e) (.tuple #[.string ⟨#[]⟩, .slice none 0 0, .bool false, .int .i64 e]) := ⟨_, rfl, Rd.nil w', h⟩
theorem plain_fine {s : List Int} : byt (plainE s).1 ∧ (plainE s).1.length ≤ s.length := by
  unfold plainE
  split
  · rename_i h
    exact ⟨asc_byt (asc_map (fun {x} h => lwF_b (x := x) h) (seen_asc h)), by simp⟩
  · exact ⟨byt_nil, by simp⟩
theorem vals_b {l : List Int} : ∀ v ∈ valsF l, -1 ≤ v ∧ v ≤ 31 := fun v hv => by
  obtain ⟨x, _, rfl⟩ := List.mem_map.1 hv
  have h1 := placeF_lt x l32S 0
  have hl : l32S.length = 32 := rfl
  refine ⟨h1.1, ?_⟩
  rcases h1.2 with h | h
  · omega
  · cases h
/-- Behind the letters: the sum. -/
theorem read_sum (w0 w : World) (t : List Int) (a : Nat) (V : List Int) (vb : Value) (i : Int) (tl : Env) (ht : byt t) (htl : t.length ≤ 1000) (ha : a < t.length) (hE : Ext w0 w) (hV : Rd w vb V) (h5 : five V) (hVl : 6 ≤ V.length ∧ V.length ≤ 1000) :
    W Tryd.prog (Ret fun u w' => ReadTo w0 w' (readV (t.take a) V) u) 13 7 ((0, .string (strOf t)) :: (7, .int .i64 a) :: (8, vb) :: (9, .int .i64 i) :: tl) w := by
  have hno : ¬ V.any (fun v => decide (v < 0)) = true := by
    intro h
    obtain ⟨x, hx, hx2⟩ := List.any_eq_true.1 h
    have := h5 x hx
    simp at hx2; omega
  rw [readV, if_neg hno]
  have hsz := str_size t
  have hc1 := str_cut t 0 a
  rw [List.drop_zero] at hc1
  have b1 : 0 ≤ (a : Int) ∧ (a : Int) ≤ (t.length : Int) := by omega
  have hhb : byt (t.take a) := byt_take ht a
  have hhl : (t.take a).length ≤ 1000 := by rw [List.length_take]; omega
  generalize t.take a = h at *
  have hsl : (spreadF h).length = 2 * h.length + 1 := by simp [spreadF]; omega
  have hsb : byt (spreadF h) := byt_app (hi_b hhb) fun x hx => by
    rcases List.mem_cons.1 hx with rfl | hx
    · omega
    · exact lo_b x hx
  have e1 : Value.int .u64 1 = U64 (constB false) := rfl
  have e2 : Value.int .u64 734539939 = U64 (constB true) := rfl
  (refine W_at c13_ok ?_; refine ⟨_, rfl, ?_⟩; simp (disch := first | omega | assumption | rfl | (simp only [vcS] <;> omega) | fail) only [↓ptV_l, ↓vcA, vcB, ↓vcD, vcE, ↓reduceIte, Nat.reduceEqDiff, Nat.reduceAdd, Nat.reduceMul, Nat.reduceLeDiff, Int.reduceLE, Int.reduceLT, Int.reduceEq, Int.reduceToNat, Int.reduceAdd, Int.reduceSub, Int.reduceMul, Int.reduceNeg, reduceCtorEq, Option.bind_some, Option.map_some, List.length_cons, List.length_nil, vcM, List.getElem?_toArray, List.getElem?_cons_zero, List.getElem?_cons_succ, hsz, b1, Int.toNat_natCast, hc1])
  generalize hr0 : (if runB 25 bechG (spreadF h ++ V) ≠ constB false ∧ runB 25 bechG (spreadF h ++ V) ≠ constB true then noRead 5 else (⟨h, V.take (V.length - 6), decide (runB 25 bechG (spreadF h ++ V) = constB true), 0⟩ : Read)) = R0
  refine callV_ret (bech_ok w.drew) ?_
  rintro _ w1 ⟨rfl, hE1⟩
  refine callV_ret (spread_ok w1 h hhb (by omega)) ?_
  rintro u2 w2 hN2
  have hE2 : Ext w w2 := (((Keep.refl _ w).drew : Ext w w.drew).ext hE1).ext hN2.ext
  refine appN hN2 (hV.ext hE2) (by omega) fun v3 w3 hN3 _ _ => ?_
  refine callV_ret (run_ok w3 25 bechG v3 (spreadF h ++ V) 0 (by decide) rfl hN3.own.rd (byt_app hsb (five_byt h5)) (by rw [List.length_append]; omega) (by decide)) ?_
  rintro _ w4 ⟨rfl, hE4⟩
  have hE5 : Ext w w4 := ((((Keep.refl _ w).drew : Ext w w.drew).ext hE1).ext hN3.ext).ext hE4
  have hE6 : Ext w0 w4 := hE.ext hE5
  have hV4 := hV.ext hE5
  rw [List.replicate_zero, List.append_nil]
  generalize runB 25 bechG (spreadF h ++ V) = c at *
  have n1 := U64_neq c (constB false)
  have n2 := U64_neq c (constB true)
  have n3 := U64_eql c (constB true)
  have good : ∀ tl, R0 = (⟨h, V.take (V.length - 6), decide (c = constB true), 0⟩ : Read) → W Tryd.prog (Ret fun u w' => ReadTo w0 w' R0 u) 13 5 ((0, .string (strOf t)) :: (7, .int .i64 a) :: (8, vb) :: (11, U64 c) :: (68, .bool false) :: tl) w4 := fun tl hR => by
    rw [hR]
    obtain ⟨⟨q, cp, rfl, hcp⟩, hm, hrd⟩ := hV4
    have hlen : lenR (.slice q V.length cp) = some (.int .i64 V.length) := rfl
    have hw6 : IntKind.i64.wrap ((V.length : Int) - 6) = ((V.length - 6 : Nat) : Int) := by rw [wrap_i64 (by omega) (by omega)]; omega
    have hk : 0 ≤ ((V.length - 6 : Nat) : Int) ∧ ((V.length - 6 : Nat) : Int) ≤ (cp : Int) := by omega
    have hcut := Rd.cut (w := w4) (q := q) (n := V.length) (c := cp) (bs := V) ⟨⟨q, cp, rfl, hcp⟩, hm, hrd⟩ (l := 0) (j := V.length - 6) (by omega) (by omega)
    rw [advA_0, List.drop_zero] at hcut
    (refine W_at c13_ok ?_; refine ⟨_, rfl, ?_⟩; simp (disch := first | omega | assumption | rfl | (simp only [vcS] <;> omega) | fail) only [↓ptV_l, ↓vcA, vcB, ↓vcD, vcE, ↓reduceIte, Nat.reduceEqDiff, Nat.reduceAdd, Nat.reduceMul, Nat.reduceLeDiff, Int.reduceLE, Int.reduceLT, Int.reduceEq, Int.reduceToNat, Int.reduceAdd, Int.reduceSub, Int.reduceMul, Int.reduceNeg, reduceCtorEq, Option.bind_some, Option.map_some, List.length_cons, List.length_nil, vcM, List.getElem?_toArray, List.getElem?_cons_zero, List.getElem?_cons_succ])
    (refine W_at c13_ok ?_; refine ⟨_, rfl, ?_⟩; simp (disch := first | omega | assumption | rfl | (simp only [vcS] <;> omega) | fail) only [↓ptV_l, ↓vcA, vcB, ↓vcD, vcE, ↓reduceIte, Nat.reduceEqDiff, Nat.reduceAdd, Nat.reduceMul, Nat.reduceLeDiff, Int.reduceLE, Int.reduceLT, Int.reduceEq, Int.reduceToNat, Int.reduceAdd, Int.reduceSub, Int.reduceMul, Int.reduceNeg, reduceCtorEq, Option.bind_some, Option.map_some, List.length_cons, List.length_nil, vcM, List.getElem?_toArray, List.getElem?_cons_zero, List.getElem?_cons_succ, hsz, b1, Int.toNat_natCast, hc1, hw6, hk, e2, n3])
    have hD : Ext w4 w4.drew := (Keep.refl _ w4).drew
    refine callV_ret (clip_ok w4.drew _ _ (hcut.ext hD)) ?_
    rintro u5 wq ⟨hu5, hw⟩
    subst hw
    (refine W_at c13_ok ?_; refine ⟨_, rfl, ?_⟩; simp (disch := first | omega | assumption | rfl | (simp only [vcS] <;> omega) | fail) only [↓ptV_l, ↓vcA, vcB, ↓vcD, vcE, ↓reduceIte, Nat.reduceEqDiff, Nat.reduceAdd, Nat.reduceMul, Nat.reduceLeDiff, Int.reduceLE, Int.reduceLT, Int.reduceEq, Int.reduceToNat, Int.reduceAdd, Int.reduceSub, Int.reduceMul, Int.reduceNeg, reduceCtorEq, Option.bind_some, Option.map_some, List.length_cons, List.length_nil, vcM, List.getElem?_toArray, List.getElem?_cons_zero, List.getElem?_cons_succ, Ret_returned])
    exact ⟨u5, rfl, hu5, hE6.ext hD⟩
  have bad : ∀ tl, R0 = noRead 5 → W Tryd.prog (Ret fun u w' => ReadTo w0 w' R0 u) 13 5 ((0, .string (strOf t)) :: (7, .int .i64 a) :: (8, vb) :: (11, U64 c) :: (68, .bool true) :: tl) w4 := fun tl hR => by
    rw [hR]
    (refine W_at c13_ok ?_; refine ⟨_, rfl, ?_⟩; simp (disch := first | omega | assumption | rfl | (simp only [vcS] <;> omega) | fail) only [↓ptV_l, ↓vcA, vcB, ↓vcD, vcE, ↓reduceIte, Nat.reduceEqDiff, Nat.reduceAdd, Nat.reduceMul, Nat.reduceLeDiff, Int.reduceLE, Int.reduceLT, Int.reduceEq, Int.reduceToNat, Int.reduceAdd, Int.reduceSub, Int.reduceMul, Int.reduceNeg, reduceCtorEq, Option.bind_some, Option.map_some, List.length_cons, List.length_nil, vcM, List.getElem?_toArray, List.getElem?_cons_zero, List.getElem?_cons_succ])
    (refine W_at c13_ok ?_; refine ⟨_, rfl, ?_⟩; simp (disch := first | omega | assumption | rfl | (simp only [vcS] <;> omega) | fail) only [↓ptV_l, ↓vcA, vcB, ↓vcD, vcE, ↓reduceIte, Nat.reduceEqDiff, Nat.reduceAdd, Nat.reduceMul, Nat.reduceLeDiff, Int.reduceLE, Int.reduceLT, Int.reduceEq, Int.reduceToNat, Int.reduceAdd, Int.reduceSub, Int.reduceMul, Int.reduceNeg, reduceCtorEq, Option.bind_some, Option.map_some, List.length_cons, List.length_nil, vcM, List.getElem?_toArray, List.getElem?_cons_zero, List.getElem?_cons_succ])
    (refine W_at c13_ok ?_; refine ⟨_, rfl, ?_⟩; simp (disch := first | omega | assumption | rfl | (simp only [vcS] <;> omega) | fail) only [↓ptV_l, ↓vcA, vcB, ↓vcD, vcE, ↓reduceIte, Nat.reduceEqDiff, Nat.reduceAdd, Nat.reduceMul, Nat.reduceLeDiff, Int.reduceLE, Int.reduceLT, Int.reduceEq, Int.reduceToNat, Int.reduceAdd, Int.reduceSub, Int.reduceMul, Int.reduceNeg, reduceCtorEq, Option.bind_some, Option.map_some, List.length_cons, List.length_nil, vcM, List.getElem?_toArray, List.getElem?_cons_zero, List.getElem?_cons_succ, Ret_returned])
    exact noRead_ext hE6 5
  by_cases k1 : c = constB false
  · have d1 := decide_eq_true k1
    (refine W_at c13_ok ?_; refine ⟨_, rfl, ?_⟩; simp (disch := first | omega | assumption | rfl | (simp only [vcS] <;> omega) | fail) only [↓ptV_l, ↓vcA, vcB, ↓vcD, vcE, ↓reduceIte, Nat.reduceEqDiff, Nat.reduceAdd, Nat.reduceMul, Nat.reduceLeDiff, Int.reduceLE, Int.reduceLT, Int.reduceEq, Int.reduceToNat, Int.reduceAdd, Int.reduceSub, Int.reduceMul, Int.reduceNeg, reduceCtorEq, Option.bind_some, Option.map_some, List.length_cons, List.length_nil, vcM, List.getElem?_toArray, List.getElem?_cons_zero, List.getElem?_cons_succ, e1, e2, n1, d1])
    exact good _ (by rw [← hr0, if_neg (fun h => h.1 k1)])
  · have d1 := decide_eq_false k1
    by_cases k2 : c = constB true
    · have d2 := decide_eq_true k2
      (refine W_at c13_ok ?_; refine ⟨_, rfl, ?_⟩; simp (disch := first | omega | assumption | rfl | (simp only [vcS] <;> omega) | fail) only [↓ptV_l, ↓vcA, vcB, ↓vcD, vcE, ↓reduceIte, Nat.reduceEqDiff, Nat.reduceAdd, Nat.reduceMul, Nat.reduceLeDiff, Int.reduceLE, Int.reduceLT, Int.reduceEq, Int.reduceToNat, Int.reduceAdd, Int.reduceSub, Int.reduceMul, Int.reduceNeg, reduceCtorEq, Option.bind_some, Option.map_some, List.length_cons, List.length_nil, vcM, List.getElem?_toArray, List.getElem?_cons_zero, List.getElem?_cons_succ, e1, e2, n1, n2, d1, d2])
      exact good _ (by rw [← hr0, if_neg (fun h => h.2 k2)])
    · have d2 := decide_eq_false k2
      (refine W_at c13_ok ?_; refine ⟨_, rfl, ?_⟩; simp (disch := first | omega | assumption | rfl | (simp only [vcS] <;> omega) | fail) only [↓ptV_l, ↓vcA, vcB, ↓vcD, vcE, ↓reduceIte, Nat.reduceEqDiff, Nat.reduceAdd, Nat.reduceMul, Nat.reduceLeDiff, Int.reduceLE, Int.reduceLT, Int.reduceEq, Int.reduceToNat, Int.reduceAdd, Int.reduceSub, Int.reduceMul, Int.reduceNeg, reduceCtorEq, Option.bind_some, Option.map_some, List.length_cons, List.length_nil, vcM, List.getElem?_toArray, List.getElem?_cons_zero, List.getElem?_cons_succ, e1, e2, n1, n2, d1, d2])
      exact bad _ (by rw [← hr0, if_pos ⟨k1, k2⟩])
set_option maxHeartbeats 1000000 in
theorem from_ok (w : World) (s : List Int) (hb : byt s) (hm : s.length ≤ maxLen) :
    Calls Tryd.prog 13 #[.string (strOf s)] w (Ret fun u w' => ReadTo w w' (fromE s) u) := by
  refine calls_of_cfg c13_ok (Nat.le_of_ble_eq_true rfl) ?_
  simp only [argE_nil, argE_cons, Nat.reduceAdd, Nat.zero_add]
  have hsz := str_size s
  (refine W_at c13_ok ?_; refine ⟨_, rfl, ?_⟩; simp (disch := first | omega | assumption | rfl | (simp only [vcS] <;> omega) | fail) only [↓ptV_l, ↓vcA, vcB, ↓vcD, vcE, ↓reduceIte, Nat.reduceEqDiff, Nat.reduceAdd, Nat.reduceMul, Nat.reduceLeDiff, Int.reduceLE, Int.reduceLT, Int.reduceEq, Int.reduceToNat, Int.reduceAdd, Int.reduceSub, Int.reduceMul, Int.reduceNeg, reduceCtorEq, Option.bind_some, Option.map_some, List.length_cons, List.length_nil, vcM, List.getElem?_toArray, List.getElem?_cons_zero, List.getElem?_cons_succ])
  by_cases h90 : 90 < s.length
  · have k1 : (90 : Int) < (s.length : Int) := by omega
    rw [fromE, if_pos h90]
    (refine W_at c13_ok ?_; refine ⟨_, rfl, ?_⟩; simp (disch := first | omega | assumption | rfl | (simp only [vcS] <;> omega) | fail) only [↓ptV_l, ↓vcA, vcB, ↓vcD, vcE, ↓reduceIte, Nat.reduceEqDiff, Nat.reduceAdd, Nat.reduceMul, Nat.reduceLeDiff, Int.reduceLE, Int.reduceLT, Int.reduceEq, Int.reduceToNat, Int.reduceAdd, Int.reduceSub, Int.reduceMul, Int.reduceNeg, reduceCtorEq, Option.bind_some, Option.map_some, List.length_cons, List.length_nil, vcM, List.getElem?_toArray, List.getElem?_cons_zero, List.getElem?_cons_succ, hsz, k1])
    (refine W_at c13_ok ?_; refine ⟨_, rfl, ?_⟩; simp (disch := first | omega | assumption | rfl | (simp only [vcS] <;> omega) | fail) only [↓ptV_l, ↓vcA, vcB, ↓vcD, vcE, ↓reduceIte, Nat.reduceEqDiff, Nat.reduceAdd, Nat.reduceMul, Nat.reduceLeDiff, Int.reduceLE, Int.reduceLT, Int.reduceEq, Int.reduceToNat, Int.reduceAdd, Int.reduceSub, Int.reduceMul, Int.reduceNeg, reduceCtorEq, Option.bind_some, Option.map_some, List.length_cons, List.length_nil, vcM, List.getElem?_toArray, List.getElem?_cons_zero, List.getElem?_cons_succ])
    (refine W_at c13_ok ?_; refine ⟨_, rfl, ?_⟩; simp (disch := first | omega | assumption | rfl | (simp only [vcS] <;> omega) | fail) only [↓ptV_l, ↓vcA, vcB, ↓vcD, vcE, ↓reduceIte, Nat.reduceEqDiff, Nat.reduceAdd, Nat.reduceMul, Nat.reduceLeDiff, Int.reduceLE, Int.reduceLT, Int.reduceEq, Int.reduceToNat, Int.reduceAdd, Int.reduceSub, Int.reduceMul, Int.reduceNeg, reduceCtorEq, Option.bind_some, Option.map_some, List.length_cons, List.length_nil, vcM, List.getElem?_toArray, List.getElem?_cons_zero, List.getElem?_cons_succ])
    (refine W_at c13_ok ?_; refine ⟨_, rfl, ?_⟩; simp (disch := first | omega | assumption | rfl | (simp only [vcS] <;> omega) | fail) only [↓ptV_l, ↓vcA, vcB, ↓vcD, vcE, ↓reduceIte, Nat.reduceEqDiff, Nat.reduceAdd, Nat.reduceMul, Nat.reduceLeDiff, Int.reduceLE, Int.reduceLT, Int.reduceEq, Int.reduceToNat, Int.reduceAdd, Int.reduceSub, Int.reduceMul, Int.reduceNeg, reduceCtorEq, Option.bind_some, Option.map_some, List.length_cons, List.length_nil, vcM, List.getElem?_toArray, List.getElem?_cons_zero, List.getElem?_cons_succ, Ret_returned])
    exact noRead_to w 2
  have k1 : ¬ (90 : Int) < (s.length : Int) := by omega
  rw [fromE, if_neg h90]
  (refine W_at c13_ok ?_; refine ⟨_, rfl, ?_⟩; simp (disch := first | omega | assumption | rfl | (simp only [vcS] <;> omega) | fail) only [↓ptV_l, ↓vcA, vcB, ↓vcD, vcE, ↓reduceIte, Nat.reduceEqDiff, Nat.reduceAdd, Nat.reduceMul, Nat.reduceLeDiff, Int.reduceLE, Int.reduceLT, Int.reduceEq, Int.reduceToNat, Int.reduceAdd, Int.reduceSub, Int.reduceMul, Int.reduceNeg, reduceCtorEq, Option.bind_some, Option.map_some, List.length_cons, List.length_nil, vcM, List.getElem?_toArray, List.getElem?_cons_zero, List.getElem?_cons_succ, hsz, k1])
  (refine W_at c13_ok ?_; refine ⟨_, rfl, ?_⟩; simp (disch := first | omega | assumption | rfl | (simp only [vcS] <;> omega) | fail) only [↓ptV_l, ↓vcA, vcB, ↓vcD, vcE, ↓reduceIte, Nat.reduceEqDiff, Nat.reduceAdd, Nat.reduceMul, Nat.reduceLeDiff, Int.reduceLE, Int.reduceLT, Int.reduceEq, Int.reduceToNat, Int.reduceAdd, Int.reduceSub, Int.reduceMul, Int.reduceNeg, reduceCtorEq, Option.bind_some, Option.map_some, List.length_cons, List.length_nil, vcM, List.getElem?_toArray, List.getElem?_cons_zero, List.getElem?_cons_succ])
  (refine W_at c13_ok ?_; refine ⟨_, rfl, ?_⟩; simp (disch := first | omega | assumption | rfl | (simp only [vcS] <;> omega) | fail) only [↓vcL1, ptS2_eq, ↓vcA, vcB, ↓vcD, vcE, ↓reduceIte, Nat.reduceEqDiff, Nat.reduceAdd, Nat.reduceMul, Nat.reduceLeDiff, Int.reduceLE, Int.reduceLT, Int.reduceEq, Int.reduceToNat, Int.reduceAdd, Int.reduceSub, Int.reduceMul, Int.reduceNeg, reduceCtorEq, Option.bind_some, Option.map_some, List.length_cons, List.length_nil, vcM, List.getElem?_toArray, List.getElem?_cons_zero, List.getElem?_cons_succ])
  refine callV_ret (plain_ok w s hb (by omega)) ?_
  rintro _ w1 ⟨rfl, hE1⟩
  obtain ⟨hpb, hpl⟩ := plain_fine (s := s)
  generalize plainE s = pp at *
  obtain ⟨t, ok⟩ := pp
  simp only at hpb hpl
  have hst := str_size t
  simp (disch := first | omega | assumption | rfl | (simp only [vcS] <;> omega) | fail) only [↓vcL2, ptS1_eq, ↓vcA, vcB, ↓vcD, vcE, ↓reduceIte, Nat.reduceEqDiff, Nat.reduceAdd, Nat.reduceMul, Nat.reduceLeDiff, Int.reduceLE, Int.reduceLT, Int.reduceEq, Int.reduceToNat, Int.reduceAdd, Int.reduceSub, Int.reduceMul, Int.reduceNeg, reduceCtorEq, Option.bind_some, Option.map_some, List.length_cons, List.length_nil, vcM, List.getElem?_toArray, List.getElem?_cons_zero, List.getElem?_cons_succ]
  (refine W_at c13_ok ?_; refine ⟨_, rfl, ?_⟩; simp (disch := first | omega | assumption | rfl | (simp only [vcS] <;> omega) | fail) only [↓vcL1, ptS2_eq, ↓vcA, vcB, ↓vcD, vcE, ↓reduceIte, Nat.reduceEqDiff, Nat.reduceAdd, Nat.reduceMul, Nat.reduceLeDiff, Int.reduceLE, Int.reduceLT, Int.reduceEq, Int.reduceToNat, Int.reduceAdd, Int.reduceSub, Int.reduceMul, Int.reduceNeg, reduceCtorEq, Option.bind_some, Option.map_some, List.length_cons, List.length_nil, vcM, List.getElem?_toArray, List.getElem?_cons_zero, List.getElem?_cons_succ])
  refine callV_ret (last_ok w1 t hpb (by omega)) ?_
  rintro _ wq ⟨rfl, hw⟩
  obtain rfl : w1 = wq := hw.symm
  simp (disch := first | omega | assumption | rfl | (simp only [vcS] <;> omega) | fail) only [↓vcL2, ptS1_eq, ↓vcA, vcB, ↓vcD, vcE, ↓reduceIte, Nat.reduceEqDiff, Nat.reduceAdd, Nat.reduceMul, Nat.reduceLeDiff, Int.reduceLE, Int.reduceLT, Int.reduceEq, Int.reduceToNat, Int.reduceAdd, Int.reduceSub, Int.reduceMul, Int.reduceNeg, reduceCtorEq, Option.bind_some, Option.map_some, List.length_cons, List.length_nil, vcM, List.getElem?_toArray, List.getElem?_cons_zero, List.getElem?_cons_succ]
  have bad : ∀ tl, fromP (t, ok) = noRead 3 → W Tryd.prog (Ret fun u w' => ReadTo w w' (fromP (t, ok)) u) 13 22 ((0, .string (strOf t)) :: (7, .int .i64 (lastF t 0)) :: (35, .bool true) :: tl) w1 := fun tl hR => by
    rw [hR]
    (refine W_at c13_ok ?_; refine ⟨_, rfl, ?_⟩; simp (disch := first | omega | assumption | rfl | (simp only [vcS] <;> omega) | fail) only [↓ptV_l, ↓vcA, vcB, ↓vcD, vcE, ↓reduceIte, Nat.reduceEqDiff, Nat.reduceAdd, Nat.reduceMul, Nat.reduceLeDiff, Int.reduceLE, Int.reduceLT, Int.reduceEq, Int.reduceToNat, Int.reduceAdd, Int.reduceSub, Int.reduceMul, Int.reduceNeg, reduceCtorEq, Option.bind_some, Option.map_some, List.length_cons, List.length_nil, vcM, List.getElem?_toArray, List.getElem?_cons_zero, List.getElem?_cons_succ])
    (refine W_at c13_ok ?_; refine ⟨_, rfl, ?_⟩; simp (disch := first | omega | assumption | rfl | (simp only [vcS] <;> omega) | fail) only [↓ptV_l, ↓vcA, vcB, ↓vcD, vcE, ↓reduceIte, Nat.reduceEqDiff, Nat.reduceAdd, Nat.reduceMul, Nat.reduceLeDiff, Int.reduceLE, Int.reduceLT, Int.reduceEq, Int.reduceToNat, Int.reduceAdd, Int.reduceSub, Int.reduceMul, Int.reduceNeg, reduceCtorEq, Option.bind_some, Option.map_some, List.length_cons, List.length_nil, vcM, List.getElem?_toArray, List.getElem?_cons_zero, List.getElem?_cons_succ])
    (refine W_at c13_ok ?_; refine ⟨_, rfl, ?_⟩; simp (disch := first | omega | assumption | rfl | (simp only [vcS] <;> omega) | fail) only [↓ptV_l, ↓vcA, vcB, ↓vcD, vcE, ↓reduceIte, Nat.reduceEqDiff, Nat.reduceAdd, Nat.reduceMul, Nat.reduceLeDiff, Int.reduceLE, Int.reduceLT, Int.reduceEq, Int.reduceToNat, Int.reduceAdd, Int.reduceSub, Int.reduceMul, Int.reduceNeg, reduceCtorEq, Option.bind_some, Option.map_some, List.length_cons, List.length_nil, vcM, List.getElem?_toArray, List.getElem?_cons_zero, List.getElem?_cons_succ, Ret_returned])
    exact noRead_ext hE1 3
  have hlb : -1 ≤ lastF t 0 ∧ lastF t 0 < t.length + 1 := by
    rcases lastF_spec t 0 with ⟨h, _⟩ | ⟨i, h1, h2, _⟩ <;> omega
  have c1 : IntKind.i64.wrap ((t.length : Int) - lastF t 0) = (t.length : Int) - lastF t 0 := wrap_i64 (by omega) (by omega)
  have c2 : IntKind.i64.wrap ((t.length : Int) - lastF t 0 - 1) = (t.length : Int) - lastF t 0 - 1 := wrap_i64 (by omega) (by omega)
  cases ok with
  | false =>
    (refine W_at c13_ok ?_; refine ⟨_, rfl, ?_⟩; simp (disch := first | omega | assumption | rfl | (simp only [vcS] <;> omega) | fail) only [↓ptV_l, ↓vcA, vcB, ↓vcD, vcE, ↓reduceIte, Nat.reduceEqDiff, Nat.reduceAdd, Nat.reduceMul, Nat.reduceLeDiff, Int.reduceLE, Int.reduceLT, Int.reduceEq, Int.reduceToNat, Int.reduceAdd, Int.reduceSub, Int.reduceMul, Int.reduceNeg, reduceCtorEq, Option.bind_some, Option.map_some, List.length_cons, List.length_nil, vcM, List.getElem?_toArray, List.getElem?_cons_zero, List.getElem?_cons_succ])
    exact bad _ (by rw [fromP, if_pos (.inl rfl)])
  | true =>
  by_cases a1 : lastF t 0 < 1
  · (refine W_at c13_ok ?_; refine ⟨_, rfl, ?_⟩; simp (disch := first | omega | assumption | rfl | (simp only [vcS] <;> omega) | fail) only [↓ptV_l, ↓vcA, vcB, ↓vcD, vcE, ↓reduceIte, Nat.reduceEqDiff, Nat.reduceAdd, Nat.reduceMul, Nat.reduceLeDiff, Int.reduceLE, Int.reduceLT, Int.reduceEq, Int.reduceToNat, Int.reduceAdd, Int.reduceSub, Int.reduceMul, Int.reduceNeg, reduceCtorEq, Option.bind_some, Option.map_some, List.length_cons, List.length_nil, vcM, List.getElem?_toArray, List.getElem?_cons_zero, List.getElem?_cons_succ, a1])
    exact bad _ (by rw [fromP, if_pos (.inr (.inl a1))])
  by_cases a2 : (t.length : Int) - lastF t 0 - 1 < 6
  · (refine W_at c13_ok ?_; refine ⟨_, rfl, ?_⟩; simp (disch := first | omega | assumption | rfl | (simp only [vcS] <;> omega) | fail) only [↓ptV_l, ↓vcA, vcB, ↓vcD, vcE, ↓reduceIte, Nat.reduceEqDiff, Nat.reduceAdd, Nat.reduceMul, Nat.reduceLeDiff, Int.reduceLE, Int.reduceLT, Int.reduceEq, Int.reduceToNat, Int.reduceAdd, Int.reduceSub, Int.reduceMul, Int.reduceNeg, reduceCtorEq, Option.bind_some, Option.map_some, List.length_cons, List.length_nil, vcM, List.getElem?_toArray, List.getElem?_cons_zero, List.getElem?_cons_succ, a1, hst, c1, c2, a2])
    exact bad _ (by rw [fromP, if_pos (.inr (.inr a2))])
  clear bad
  have hP : fromP (t, true) = readV (t.take (lastF t 0).toNat) (valsF (t.drop ((lastF t 0).toNat + 1))) := by
    rw [fromP, if_neg]
    rintro (h | h | h)
    · cases h
    · exact a1 h
    · exact a2 h
  rw [hP]
  (refine W_at c13_ok ?_; refine ⟨_, rfl, ?_⟩; simp (disch := first | omega | assumption | rfl | (simp only [vcS] <;> omega) | fail) only [↓ptV_l, ↓vcA, vcB, ↓vcD, vcE, ↓reduceIte, Nat.reduceEqDiff, Nat.reduceAdd, Nat.reduceMul, Nat.reduceLeDiff, Int.reduceLE, Int.reduceLT, Int.reduceEq, Int.reduceToNat, Int.reduceAdd, Int.reduceSub, Int.reduceMul, Int.reduceNeg, reduceCtorEq, Option.bind_some, Option.map_some, List.length_cons, List.length_nil, vcM, List.getElem?_toArray, List.getElem?_cons_zero, List.getElem?_cons_succ, a1, hst, c1, c2, a2])
  obtain ⟨a, ha⟩ : ∃ a : Nat, lastF t 0 = (a : Int) := ⟨(lastF t 0).toNat, by omega⟩
  rw [ha] at hlb c1 c2 a1 a2 ⊢
  rw [Int.toNat_natCast]
  have hwa : IntKind.i64.wrap ((a : Int) + 1) = ((a + 1 : Nat) : Int) := wrap_i64 (by omega) (by omega)
  have hVl : (valsF (t.drop (a + 1))).length = t.length - (a + 1) := by rw [valsF, List.length_map, List.length_drop]
  have hvb := vals_b (l := t.drop (a + 1))
  (refine W_at c13_ok ?_; refine ⟨_, rfl, ?_⟩; simp (disch := first | omega | assumption | rfl | (simp only [vcS] <;> omega) | fail) only [↓ptV_l, ↓vcA, vcB, ↓vcD, vcE, ↓reduceIte, Nat.reduceEqDiff, Nat.reduceAdd, Nat.reduceMul, Nat.reduceLeDiff, Int.reduceLE, Int.reduceLT, Int.reduceEq, Int.reduceToNat, Int.reduceAdd, Int.reduceSub, Int.reduceMul, Int.reduceNeg, reduceCtorEq, Option.bind_some, Option.map_some, List.length_cons, List.length_nil, vcM, List.getElem?_toArray, List.getElem?_cons_zero, List.getElem?_cons_succ])
  (refine W_at c13_ok ?_; refine ⟨_, rfl, ?_⟩; simp (disch := first | omega | assumption | rfl | (simp only [vcS] <;> omega) | fail) only [↓ptV_l, ↓vcA, vcB, ↓vcD, vcE, ↓reduceIte, Nat.reduceEqDiff, Nat.reduceAdd, Nat.reduceMul, Nat.reduceLeDiff, Int.reduceLE, Int.reduceLT, Int.reduceEq, Int.reduceToNat, Int.reduceAdd, Int.reduceSub, Int.reduceMul, Int.reduceNeg, reduceCtorEq, Option.bind_some, Option.map_some, List.length_cons, List.length_nil, vcM, List.getElem?_toArray, List.getElem?_cons_zero, List.getElem?_cons_succ])
  (refine W_at c13_ok ?_; refine ⟨_, rfl, ?_⟩; simp (disch := first | omega | assumption | rfl | (simp only [vcS] <;> omega) | fail) only [↓ptV_l, ↓vcA, vcB, ↓vcD, vcE, ↓reduceIte, Nat.reduceEqDiff, Nat.reduceAdd, Nat.reduceMul, Nat.reduceLeDiff, Int.reduceLE, Int.reduceLT, Int.reduceEq, Int.reduceToNat, Int.reduceAdd, Int.reduceSub, Int.reduceMul, Int.reduceNeg, reduceCtorEq, Option.bind_some, Option.map_some, List.length_cons, List.length_nil, vcM, List.getElem?_toArray, List.getElem?_cons_zero, List.getElem?_cons_succ, hwa])
  have L : ∀ (k j : Nat) (wj : World) (vb : Value) (tl : Env), k + j = t.length - (a + 1) → New w1 wj vb ((valsF (t.drop (a + 1))).take j) → five ((valsF (t.drop (a + 1))).take j) →
      W Tryd.prog (Ret fun u w' => ReadTo w w' (readV (t.take a) (valsF (t.drop (a + 1)))) u) 13 17 ((0, .string (strOf t)) :: (7, .int .i64 a) :: (8, vb) :: (9, .int .i64 ((a + 1 + j : Nat) : Int)) :: tl) wj := by
    intro k
    induction k with
    | zero =>
      intro j wj vb tl hi hB h5
      have hil : ¬ (((a + 1 + j : Nat) : Int) < (t.length : Int)) := by omega
      rw [List.take_of_length_le (by omega)] at hB h5
      (refine W_at c13_ok ?_; refine ⟨_, rfl, ?_⟩; simp (disch := first | omega | assumption | rfl | (simp only [vcS] <;> omega) | fail) only [↓ptV_l, ↓vcA, vcB, ↓vcD, vcE, ↓reduceIte, Nat.reduceEqDiff, Nat.reduceAdd, Nat.reduceMul, Nat.reduceLeDiff, Int.reduceLE, Int.reduceLT, Int.reduceEq, Int.reduceToNat, Int.reduceAdd, Int.reduceSub, Int.reduceMul, Int.reduceNeg, reduceCtorEq, Option.bind_some, Option.map_some, List.length_cons, List.length_nil, vcM, List.getElem?_toArray, List.getElem?_cons_zero, List.getElem?_cons_succ, hst, hil])
      (refine W_at c13_ok ?_; refine ⟨_, rfl, ?_⟩; simp (disch := first | omega | assumption | rfl | (simp only [vcS] <;> omega) | fail) only [↓ptV_l, ↓vcA, vcB, ↓vcD, vcE, ↓reduceIte, Nat.reduceEqDiff, Nat.reduceAdd, Nat.reduceMul, Nat.reduceLeDiff, Int.reduceLE, Int.reduceLT, Int.reduceEq, Int.reduceToNat, Int.reduceAdd, Int.reduceSub, Int.reduceMul, Int.reduceNeg, reduceCtorEq, Option.bind_some, Option.map_some, List.length_cons, List.length_nil, vcM, List.getElem?_toArray, List.getElem?_cons_zero, List.getElem?_cons_succ])
      exact read_sum w wj t a _ vb _ _ hpb (by omega) (by omega) (hE1.ext hB.ext) hB.own.rd h5 (by omega)
    | succ k ih =>
      intro j wj vb tl hi hB h5
      have hil : ((a + 1 + j : Nat) : Int) < (t.length : Int) := by omega
      have h0 : 0 ≤ ((a + 1 + j : Nat) : Int) := by omega
      have hwi : IntKind.i64.wrap (((a + 1 + j : Nat) : Int) + 1) = ((a + 1 + (j + 1) : Nat) : Int) := by rw [wrap_i64 (by omega) (by omega)]; omega
      have g1 := str_get (bs := t) (i := a + 1 + j) (by omega)
      have u1 := u8i (hpb t[a + 1 + j] (List.getElem_mem _))
      have b1 := hpb t[a + 1 + j] (List.getElem_mem _)
      have hp : (valsF (t.drop (a + 1)))[j]? = some (placeF t[a + 1 + j] l32S 0) := by
        rw [valsF, List.getElem?_map, List.getElem?_drop, List.getElem?_eq_getElem (by omega)]; rfl
      have htk : (valsF (t.drop (a + 1))).take (j + 1) = (valsF (t.drop (a + 1))).take j ++ [placeF t[a + 1 + j] l32S 0] := by
        rw [List.take_add_one, hp]; rfl
      have hmem : placeF t[a + 1 + j] l32S 0 ∈ valsF (t.drop (a + 1)) := List.mem_of_getElem? hp
      have hpv := hvb _ hmem
      have hih := ih (j + 1)
      rw [htk] at hih
      have hjl : ((valsF (t.drop (a + 1))).take j).length ≤ 1000 := by rw [List.length_take]; omega
      clear htk hp
      (refine W_at c13_ok ?_; refine ⟨_, rfl, ?_⟩; simp (disch := first | omega | assumption | rfl | (simp only [vcS] <;> omega) | fail) only [↓ptV_l, ↓vcA, vcB, ↓vcD, vcE, ↓reduceIte, Nat.reduceEqDiff, Nat.reduceAdd, Nat.reduceMul, Nat.reduceLeDiff, Int.reduceLE, Int.reduceLT, Int.reduceEq, Int.reduceToNat, Int.reduceAdd, Int.reduceSub, Int.reduceMul, Int.reduceNeg, reduceCtorEq, Option.bind_some, Option.map_some, List.length_cons, List.length_nil, vcM, List.getElem?_toArray, List.getElem?_cons_zero, List.getElem?_cons_succ, hst, hil])
      (refine W_at c13_ok ?_; refine ⟨_, rfl, ?_⟩; simp (disch := first | omega | assumption | rfl | (simp only [vcS] <;> omega) | fail) only [↓ptV_l, ↓vcA, vcB, ↓vcD, vcE, ↓reduceIte, Nat.reduceEqDiff, Nat.reduceAdd, Nat.reduceMul, Nat.reduceLeDiff, Int.reduceLE, Int.reduceLT, Int.reduceEq, Int.reduceToNat, Int.reduceAdd, Int.reduceSub, Int.reduceMul, Int.reduceNeg, reduceCtorEq, Option.bind_some, Option.map_some, List.length_cons, List.length_nil, vcM, List.getElem?_toArray, List.getElem?_cons_zero, List.getElem?_cons_succ])
      (refine W_at c13_ok ?_; refine ⟨_, rfl, ?_⟩; simp (disch := first | omega | assumption | rfl | (simp only [vcS] <;> omega) | fail) only [↓vcL1, ptS2_eq, ↓vcA, vcB, ↓vcD, vcE, ↓reduceIte, Nat.reduceEqDiff, Nat.reduceAdd, Nat.reduceMul, Nat.reduceLeDiff, Int.reduceLE, Int.reduceLT, Int.reduceEq, Int.reduceToNat, Int.reduceAdd, Int.reduceSub, Int.reduceMul, Int.reduceNeg, reduceCtorEq, Option.bind_some, Option.map_some, List.length_cons, List.length_nil, vcM, List.getElem?_toArray, List.getElem?_cons_zero, List.getElem?_cons_succ, h0, Int.toNat_natCast, g1, u1, l32S_is])
      generalize t[a + 1 + j] = x at *
      refine callV_ret (index_ok wj l32S x l32S_byt b1) ?_
      rintro _ wq ⟨rfl, hw⟩
      obtain rfl : wj = wq := hw.symm
      simp (disch := first | omega | assumption | rfl | (simp only [vcS] <;> omega) | fail) only [↓vcL2, ptS1_eq, ↓vcA, vcB, ↓vcD, vcE, ↓reduceIte, Nat.reduceEqDiff, Nat.reduceAdd, Nat.reduceMul, Nat.reduceLeDiff, Int.reduceLE, Int.reduceLT, Int.reduceEq, Int.reduceToNat, Int.reduceAdd, Int.reduceSub, Int.reduceMul, Int.reduceNeg, reduceCtorEq, Option.bind_some, Option.map_some, List.length_cons, List.length_nil, vcM, List.getElem?_toArray, List.getElem?_cons_zero, List.getElem?_cons_succ]
      generalize placeF x l32S 0 = p at *
      by_cases hneg : p < 0
      · have hR : readV (t.take a) (valsF (t.drop (a + 1))) = noRead 3 := by
          rw [readV, if_pos (List.any_eq_true.2 ⟨p, hmem, decide_eq_true hneg⟩)]
        rw [hR]
        (refine W_at c13_ok ?_; refine ⟨_, rfl, ?_⟩; simp (disch := first | omega | assumption | rfl | (simp only [vcS] <;> omega) | fail) only [↓ptV_l, ↓vcA, vcB, ↓vcD, vcE, ↓reduceIte, Nat.reduceEqDiff, Nat.reduceAdd, Nat.reduceMul, Nat.reduceLeDiff, Int.reduceLE, Int.reduceLT, Int.reduceEq, Int.reduceToNat, Int.reduceAdd, Int.reduceSub, Int.reduceMul, Int.reduceNeg, reduceCtorEq, Option.bind_some, Option.map_some, List.length_cons, List.length_nil, vcM, List.getElem?_toArray, List.getElem?_cons_zero, List.getElem?_cons_succ, hneg])
        (refine W_at c13_ok ?_; refine ⟨_, rfl, ?_⟩; simp (disch := first | omega | assumption | rfl | (simp only [vcS] <;> omega) | fail) only [↓ptV_l, ↓vcA, vcB, ↓vcD, vcE, ↓reduceIte, Nat.reduceEqDiff, Nat.reduceAdd, Nat.reduceMul, Nat.reduceLeDiff, Int.reduceLE, Int.reduceLT, Int.reduceEq, Int.reduceToNat, Int.reduceAdd, Int.reduceSub, Int.reduceMul, Int.reduceNeg, reduceCtorEq, Option.bind_some, Option.map_some, List.length_cons, List.length_nil, vcM, List.getElem?_toArray, List.getElem?_cons_zero, List.getElem?_cons_succ])
        (refine W_at c13_ok ?_; refine ⟨_, rfl, ?_⟩; simp (disch := first | omega | assumption | rfl | (simp only [vcS] <;> omega) | fail) only [↓ptV_l, ↓vcA, vcB, ↓vcD, vcE, ↓reduceIte, Nat.reduceEqDiff, Nat.reduceAdd, Nat.reduceMul, Nat.reduceLeDiff, Int.reduceLE, Int.reduceLT, Int.reduceEq, Int.reduceToNat, Int.reduceAdd, Int.reduceSub, Int.reduceMul, Int.reduceNeg, reduceCtorEq, Option.bind_some, Option.map_some, List.length_cons, List.length_nil, vcM, List.getElem?_toArray, List.getElem?_cons_zero, List.getElem?_cons_succ])
        (refine W_at c13_ok ?_; refine ⟨_, rfl, ?_⟩; simp (disch := first | omega | assumption | rfl | (simp only [vcS] <;> omega) | fail) only [↓ptV_l, ↓vcA, vcB, ↓vcD, vcE, ↓reduceIte, Nat.reduceEqDiff, Nat.reduceAdd, Nat.reduceMul, Nat.reduceLeDiff, Int.reduceLE, Int.reduceLT, Int.reduceEq, Int.reduceToNat, Int.reduceAdd, Int.reduceSub, Int.reduceMul, Int.reduceNeg, reduceCtorEq, Option.bind_some, Option.map_some, List.length_cons, List.length_nil, vcM, List.getElem?_toArray, List.getElem?_cons_zero, List.getElem?_cons_succ, Ret_returned])
        exact noRead_ext (hE1.ext hB.ext) 3
      · have w8 : IntKind.u8.wrap p = p := by rw [wrap_u8]; omega
        (refine W_at c13_ok ?_; refine ⟨_, rfl, ?_⟩; simp (disch := first | omega | assumption | rfl | (simp only [vcS] <;> omega) | fail) only [↓ptV_l, ↓vcA, vcB, ↓vcD, vcE, ↓reduceIte, Nat.reduceEqDiff, Nat.reduceAdd, Nat.reduceMul, Nat.reduceLeDiff, Int.reduceLE, Int.reduceLT, Int.reduceEq, Int.reduceToNat, Int.reduceAdd, Int.reduceSub, Int.reduceMul, Int.reduceNeg, reduceCtorEq, Option.bind_some, Option.map_some, List.length_cons, List.length_nil, vcM, List.getElem?_toArray, List.getElem?_cons_zero, List.getElem?_cons_succ, hneg])
        (refine W_at c13_ok ?_; refine ⟨_, rfl, ?_⟩; simp (disch := first | omega | assumption | rfl | (simp only [vcS] <;> omega) | fail) only [↓ptV_l, ↓vcA, vcB, ↓vcD, vcE, ↓reduceIte, Nat.reduceEqDiff, Nat.reduceAdd, Nat.reduceMul, Nat.reduceLeDiff, Int.reduceLE, Int.reduceLT, Int.reduceEq, Int.reduceToNat, Int.reduceAdd, Int.reduceSub, Int.reduceMul, Int.reduceNeg, reduceCtorEq, Option.bind_some, Option.map_some, List.length_cons, List.length_nil, vcM, List.getElem?_toArray, List.getElem?_cons_zero, List.getElem?_cons_succ])
        (refine W_at c13_ok ?_; refine ⟨_, rfl, ?_⟩; simp (disch := first | omega | assumption | rfl | (simp only [vcS] <;> omega) | fail) only [↓ptV_l, ↓vcA, vcB, ↓vcD, vcE, ↓reduceIte, Nat.reduceEqDiff, Nat.reduceAdd, Nat.reduceMul, Nat.reduceLeDiff, Int.reduceLE, Int.reduceLT, Int.reduceEq, Int.reduceToNat, Int.reduceAdd, Int.reduceSub, Int.reduceMul, Int.reduceNeg, reduceCtorEq, Option.bind_some, Option.map_some, List.length_cons, List.length_nil, vcM, List.getElem?_toArray, List.getElem?_cons_zero, List.getElem?_cons_succ, w8])
        refine appNL (news := [p]) hB (by simp only [List.length_cons, List.length_nil]; omega) fun v' w' n1 _ _ => ?_
        (refine W_at c13_ok ?_; refine ⟨_, rfl, ?_⟩; simp (disch := first | omega | assumption | rfl | (simp only [vcS] <;> omega) | fail) only [↓ptV_l, ↓vcA, vcB, ↓vcD, vcE, ↓reduceIte, Nat.reduceEqDiff, Nat.reduceAdd, Nat.reduceMul, Nat.reduceLeDiff, Int.reduceLE, Int.reduceLT, Int.reduceEq, Int.reduceToNat, Int.reduceAdd, Int.reduceSub, Int.reduceMul, Int.reduceNeg, reduceCtorEq, Option.bind_some, Option.map_some, List.length_cons, List.length_nil, vcM, List.getElem?_toArray, List.getElem?_cons_zero, List.getElem?_cons_succ, hwi])
        (refine W_at c13_ok ?_; refine ⟨_, rfl, ?_⟩; simp (disch := first | omega | assumption | rfl | (simp only [vcS] <;> omega) | fail) only [↓ptV_l, ↓vcA, vcB, ↓vcD, vcE, ↓reduceIte, Nat.reduceEqDiff, Nat.reduceAdd, Nat.reduceMul, Nat.reduceLeDiff, Int.reduceLE, Int.reduceLT, Int.reduceEq, Int.reduceToNat, Int.reduceAdd, Int.reduceSub, Int.reduceMul, Int.reduceNeg, reduceCtorEq, Option.bind_some, Option.map_some, List.length_cons, List.length_nil, vcM, List.getElem?_toArray, List.getElem?_cons_zero, List.getElem?_cons_succ])
        exact hih w' v' _ (by omega) n1 (five_app h5 fun y hy => by rw [List.mem_singleton.1 hy]; omega)
  exact L (t.length - (a + 1)) 0 w1 _ _ (by omega) (New.nil w1) (fun v hv => by simp at hv)
end Go.Proofs
namespace Go.Proofs
open Go.Vc
set_option maxRecDepth 10000

theorem place_l32 {x : Int} (h : 0 ≤ x ∧ x < 32) : placeF (l32F x) l32S 0 = x := by
  have hd : ∀ n : Fin 32, placeF (l32F ((n.val : Nat) : Int)) l32S 0 = ((n.val : Nat) : Int) := by decide +kernel
  obtain ⟨n, rfl⟩ : ∃ n : Nat, x = (n : Int) := ⟨x.toNat, by omega⟩
  exact hd ⟨n, by omega⟩
theorem l32_fine {x : Int} (h : 0 ≤ x ∧ x < 32) : see (l32F x) = true ∧ lwF (l32F x) = l32F x ∧ l32F x ≠ 49 := by
  have hd : ∀ n : Fin 32, see (l32F ((n.val : Nat) : Int)) = true ∧ lwF (l32F ((n.val : Nat) : Int)) = l32F ((n.val : Nat) : Int) ∧ l32F ((n.val : Nat) : Int) ≠ 49 := by decide +kernel
  obtain ⟨n, rfl⟩ : ∃ n : Nat, x = (n : Int) := ⟨x.toNat, by omega⟩
  exact hd ⟨n, by omega⟩
theorem lastF_none : ∀ (l : List Int) (k : Nat), (∀ x ∈ l, x ≠ 49) → lastF l k = -1 := fun l k h => by
  rcases lastF_spec l k with ⟨h1, _⟩ | ⟨i, _, _, h3, _⟩
  · exact h1
  · exact absurd rfl (h 49 (List.mem_of_getElem? h3))
theorem lastF_at : ∀ (h L : List Int) (k : Nat), (∀ x ∈ L, x ≠ 49) → lastF (h ++ 49 :: L) k = ((k + h.length : Nat) : Int)
  | [], L, k, hL => by
    rw [List.nil_append, lastF, lastF_none L _ hL, if_neg (by decide), if_pos rfl]; rfl
  | b :: h, L, k, hL => by
    rw [List.cons_append, lastF, lastF_at h L (k + 1) hL, if_pos (by omega), List.length_cons]
    congr 1; omega
theorem okH_all {h : List Int} (hk : okH h = true) : ∀ x ∈ h, okc x = true := fun x hx => List.all_eq_true.1 hk x hx
theorem okc_fine {x : Int} (h : okc x = true) : see x = true ∧ lwF x = x ∧ (33 ≤ x ∧ x ≤ 126) := by
  simp [okc] at h
  refine ⟨by simp [see]; omega, ?_, by omega⟩
  unfold lwF
  split
  · omega
  · rfl
/-- A text of a part for people and letters. -/
theorem from_letters {h us : List Int} (h0 : h ≠ []) (hk : okH h = true) (h5 : five us) (hl : h.length + 1 + us.length ≤ 90) (h6 : 6 ≤ us.length) : fromE (h ++ 49 :: us.map l32F) = readV h us := by
  have hs : ∀ x ∈ h ++ 49 :: us.map l32F, see x = true ∧ lwF x = x := fun x hx => by
    rcases List.mem_append.1 hx with hx | hx
    · have := okc_fine (okH_all hk x hx); exact ⟨this.1, this.2.1⟩
    · rcases List.mem_cons.1 hx with rfl | hx
      · exact ⟨rfl, rfl⟩
      · obtain ⟨y, hy, rfl⟩ := List.mem_map.1 hx
        have := l32_fine (h5 y hy); exact ⟨this.1, this.2.1⟩
  have h1 : (h ++ 49 :: us.map l32F).map lwF = h ++ 49 :: us.map l32F := by
    conv => rhs; rw [← List.map_id (h ++ 49 :: us.map l32F)]
    exact List.map_congr_left fun x hx => (hs x hx).2
  have h2 : plainE (h ++ 49 :: us.map l32F) = (h ++ 49 :: us.map l32F, true) := by
    rw [plainE, if_pos (show seen _ = true from List.all_eq_true.2 fun x hx => (hs x hx).1), h1]
    simp
  have hlen : (h ++ 49 :: us.map l32F).length = h.length + 1 + us.length := by simp; omega
  have hla := lastF_at h (us.map l32F) 0 fun x hx => by
    obtain ⟨y, hy, rfl⟩ := List.mem_map.1 hx
    exact (l32_fine (h5 y hy)).2.2
  rw [Nat.zero_add] at hla
  have hp : 1 ≤ h.length := by
    cases h with
    | nil => exact absurd rfl h0
    | cons => simp
  rw [fromE, if_neg (by omega), h2, fromP]
  simp only
  rw [hla, hlen, if_neg (by rintro (h | h | h); · cases h
                            · omega
                            · omega), Int.toNat_natCast, List.take_left]
  have e1 : (h ++ 49 :: us.map l32F).drop (h.length + 1) = us.map l32F := by
    rw [← List.drop_drop, List.drop_left]; rfl
  have e2 : valsF (us.map l32F) = us := by
    rw [valsF, List.map_map]
    conv => rhs; rw [← List.map_id us]
    exact List.map_congr_left fun x hx => place_l32 (h5 x hx)
  rw [e1, e2]
theorem constB_lt (m : Bool) : (constB m).toNat < 2 ^ 30 := by cases m <;> decide
theorem spread_five {h : List Int} (hb : byt h) : five (spreadF h) := by
  refine five_app (fun x hx => ?_) fun x hx => ?_
  · obtain ⟨y, hy, rfl⟩ := List.mem_map.1 hx
    have := hb y hy; show 0 ≤ y / 32 ∧ y / 32 < 32; omega
  · rcases List.mem_cons.1 hx with rfl | hx
    · omega
    · obtain ⟨y, hy, rfl⟩ := List.mem_map.1 hx
      show 0 ≤ y % 32 ∧ y % 32 < 32; omega
theorem sumL_five (h d : List Int) (m : Bool) : five (sumL h d m) := fun x hx => by have := letters_b _ _ x hx; omega
theorem sumL_len (h d : List Int) (m : Bool) : (sumL h d m).length = 6 := by simp [sumL, lettersF]
/-- With its sum it yields the constant. -/
theorem sum_const {h d : List Int} (m : Bool) (hb : byt h) (h5 : five d) : runB 25 bechG (spreadF h ++ (d ++ sumL h d m)) = constB m := by
  have hv : five (spreadF h ++ d) := five_app (spread_five hb) h5
  have hc := rG_lt (spreadF h ++ d) (c := 1#64) (by decide) hv
  have e1 : runB 25 bechG (spreadF h ++ (d ++ sumL h d m)) = rG (rG 1#64 (spreadF h ++ d)) (sumL h d m) := by
    rw [← rG_app, List.append_assoc]; rfl
  have e2 : sumX h d m = rG (rG 1#64 (spreadF h ++ d)) (List.replicate 6 0) ^^^ constB m := by
    rw [← rG_app]; rfl
  have hz := rG_zeros (sumL h d m) hc hc (sumL_five h d m)
  have hX : (sumX h d m).toNat < 2 ^ 30 := by
    rw [e2]
    exact xor_lt (rG_lt _ hc (five_rep 6)) (constB_lt m)
  rw [sumL_len, BitVec.xor_self, show dV 0#64 (sumL h d m) = sumX h d m from dV_letters hX] at hz
  rw [e1]
  generalize rG (rG 1#64 (spreadF h ++ d)) (sumL h d m) = A at *
  generalize rG (rG 1#64 (spreadF h ++ d)) (List.replicate 6 0) = B at *
  rw [e2] at hz
  have h3 := congrArg (B ^^^ ·) hz
  have e4 : B ^^^ (A ^^^ B) = A := by rw [BitVec.xor_comm A B, ← BitVec.xor_assoc, BitVec.xor_self, BitVec.zero_xor]
  have e5 : B ^^^ (B ^^^ constB m) = constB m := by rw [← BitVec.xor_assoc, BitVec.xor_self, BitVec.zero_xor]
  simp only [e4, e5] at h3
  exact h3
/-- What may be written. -/
structure Fit (h d : List Int) : Prop where
  byt : byt h
  ne : h ≠ []
  ok : okH h = true
  five : five d
  len : h.length + 1 + d.length + 6 ≤ 90
theorem bechE_fit {h d : List Int} {m : Bool} (hb : byt h) (hd : byt d) (he : (bechE h d m).2 = 0) : Fit h d ∧ bechE h d m = (bechF h d m, 0) := by
  unfold bechE at he ⊢
  split at he
  · cases he
  · rename_i h1
    rw [if_neg h1]
    split at he
    · cases he
    · rename_i h2
      rw [if_neg h2]
      refine ⟨⟨hb, fun h => h2 (.inl h), ?_, ?_, by omega⟩, rfl⟩
      · cases ho : okH h with
        | true => rfl
        | false => exact absurd (.inr (.inl ho)) h2
      · refine bigV_five hd ?_
        cases ho : bigV d with
        | false => rfl
        | true => exact absurd (.inr (.inr ho)) h2
theorem no_neg {us : List Int} (h : five us) : ¬ us.any (fun v => decide (v < 0)) = true := by
  intro ha
  obtain ⟨x, hx, hx2⟩ := List.any_eq_true.1 ha
  have := h x hx
  simp at hx2; omega
theorem bech_back {h d : List Int} {m : Bool} (hf : Fit h d) : fromE (bechF h d m) = ⟨h, d, m, 0⟩ := by
  have h5 : five (d ++ sumL h d m) := five_app hf.five (sumL_five h d m)
  have hl : (d ++ sumL h d m).length = d.length + 6 := by rw [List.length_append, sumL_len]
  have hlen := hf.len
  rw [bechF, from_letters hf.ne hf.ok h5 (by omega) (by omega), readV, if_neg (no_neg h5), sum_const m hf.byt hf.five]
  rw [if_neg (by
    rintro ⟨k1, k2⟩
    cases m
    · exact k1 rfl
    · exact k2 rfl)]
  have e1 : (d ++ sumL h d m).take ((d ++ sumL h d m).length - 6) = d := by rw [hl, Nat.add_sub_cancel, List.take_left]
  have e2 : decide (constB m = constB true) = m := by cases m <;> decide
  rw [e1, e2]
/-! ### One letter -/
end Go.Proofs
namespace Go.Proofs
open Go.Vc
set_option maxRecDepth 10000

theorem args_3 {args : Array Value} (h : args.size = 3) : ∃ v u x, args = #[v, u, x] := by
  obtain ⟨l⟩ := args
  match l, h with
  | [v, u, x], _ => exact ⟨v, u, x, rfl⟩

theorem flat_ones {k : IntKind} : ∀ {xs : List (Array Value)} {bs : List Int}, bs.length = xs.length → (∀ i (h : i < xs.length) (h' : i < bs.length), xs[i] = #[Value.int k bs[i]]) → xs.flatMap Array.toList = bs.map (.int k)
  | [], [], _, _ => rfl
  | [], _ :: _, h, _ => by simp at h
  | _ :: _, [], h, _ => by simp at h
  | x :: xs, b :: bs, h, hx => by
    have h0 := hx 0 (by simp) (by simp)
    simp only [List.getElem_cons_zero] at h0
    have ih := flat_ones (k := k) (xs := xs) (bs := bs) (by simpa using h) fun i h1 h2 => by
      have := hx (i + 1) (by simpa using h1) (by simpa using h2)
      simpa using this
    rw [List.flatMap_cons, h0, ih]; rfl
/-- A slice of integers. -/
theorem ints_of {k : IntKind} {w : World} {q : Option Addr} {n c : Nat} (h : Lies w (.sl (.cons (.int k) .nil)) (.slice q n c)) : n ≤ maxLen ∧ ∃ bs : List Int, bs.length = n ∧ rdS w 1 (.slice q n c) = some (bs.map (.int k)).toArray ∧ ∀ b ∈ bs, k.min ≤ b ∧ b ≤ k.max := by
  simp only [Lies] at h
  obtain ⟨q', n', c', xs, h1, h2, h3, h4, h5, h6, h7⟩ := h
  cases h1
  have hx : ∀ x ∈ xs, ∃ b : Int, x = #[Value.int k b] ∧ k.min ≤ b ∧ b ≤ k.max := by
    intro x hx
    have h := h7 x hx
    cases hl : x.toList with
    | nil => rw [hl] at h; simp [LiesAll] at h
    | cons y l =>
      rw [hl] at h
      simp only [LiesAll, Lies] at h
      obtain ⟨⟨b, rfl, hb⟩, rfl⟩ := h
      exact ⟨b, Array.ext' hl, wf_int hb⟩
  obtain ⟨bs, hl, hbs⟩ := list_choose xs hx
  refine ⟨Nat.le_trans h2 h3, bs, by omega, ?_, ?_⟩
  · rw [show (1 : Nat) = Tys.len (.cons (.int k) .nil) from rfl, h5, flat_ones hl fun i h h' => (hbs i h h').1]
  · intro b hb
    obtain ⟨i, hi, rfl⟩ := List.getElem_of_mem hb
    exact (hbs i (by omega) hi).2
/-- A slice of bytes. -/
theorem bytes_of {w : World} {v : Value} (h : Lies w (.sl (.cons (.int .u8) .nil)) v) : ∃ bs, Rd w v bs ∧ byt bs := by
  have h0 := h
  simp only [Lies] at h
  obtain ⟨q, n, c, _, rfl, h2, _⟩ := h
  obtain ⟨hm, bs, hl, hr, hb⟩ := ints_of h0
  subst hl
  refine ⟨bs, ⟨⟨q, c, rfl, h2⟩, hm, hr⟩, fun b hx => ?_⟩
  have h1 : IntKind.u8.min = 0 := by decide
  have h2 : IntKind.u8.max = 255 := by decide
  have := hb b hx
  rw [h1, h2] at this; exact this
end Go.Proofs
namespace Go.Proofs.YtajkhimlpnebdaaDoor
open Go.Vc Go.ChangeShapes Go.WideShapes Go.ChangeAt Go.RowKit Go.Proofs
theorem Tryd.own : ownKnob Tryd.prog.godebug = none := by kernel_rfl
theorem Tryd.laidOut : laidOutB Tryd.prog = true := by kernel_rfl
abbrev laid3 : List (String × DataW Unit) := Rows.textBechRow.laid
set_option maxRecDepth 100000 in
theorem laid3_met (os : Os) (args : Array Value) : laidMetH Tryd.prog laid3 ((World.laidAll Tryd.prog os laid3).forCall (fun _ _ => 0) ⟨#[], args, []⟩).memory := by
  rw [MakeChecks.laidMetH_plain _ _ _ (by kernel_rfl)]
  exact laidMet_laidAll _ (by kernel_rfl) (by kernel_rfl)
theorem str_arg {P : Program} {W : World} {t : TypeId} {v : Value} {m : Nat} (ht : tyOf P m t = some (.cons .str .nil)) (hu : P.underlying t = some .string) (h : ArgLies P W t v) : ∃ s, v = .string (strOf s) ∧ byt s ∧ s.length ≤ maxLen := by
  obtain ⟨x, rfl, hx⟩ := argStr ht hu h
  obtain ⟨s, hs, rfl⟩ := str_of x
  exact ⟨s, rfl, hs, by rw [str_size] at hx; exact hx⟩
end Go.Proofs.YtajkhimlpnebdaaDoor
namespace Go.Proofs
open Go.Vc
set_option maxRecDepth 10000

theorem U64_quoG (y : BitVec 64) : binR .quo (U64 y) (.int .u64 33554432) = some (U64 (y / 33554432#64)) := U64_quo y 33554432#64 (by decide)
theorem U64_remG (y : BitVec 64) : binR .rem (U64 y) (.int .u64 33554432) = some (U64 (y % 33554432#64)) := U64_rem y 33554432#64 (by decide)
theorem quoG_is (y : BitVec 64) : y / 33554432#64 = y >>> 25 := by
  apply BitVec.eq_of_toNat_eq
  rw [BitVec.toNat_udiv, BitVec.toNat_ushiftRight, Nat.shiftRight_eq_div_pow]
  rfl
theorem remG_is (y : BitVec 64) : y % 33554432#64 * 32#64 = (y &&& maskG) <<< 5 := by
  apply BitVec.eq_of_toNat_eq
  rw [shl_maskG, BitVec.toNat_mul, BitVec.toNat_umod]
  have e1 : (33554432#64).toNat = 2 ^ 25 := by decide
  have e2 : (32#64).toNat = 32 := by decide
  rw [e1, e2]
  omega
theorem step_ok (w : World) (c : BitVec 64) (v : Int) (hv : 0 ≤ v ∧ v < 256) :
    Calls Tryd.prog 47 #[U64 c, .int .u8 v] w (Ret fun u w' => u = U64 (stepB 25 bechG c v) ∧ Ext w w') := by
  refine calls_of_cfg c47_ok (Nat.le_of_ble_eq_true rfl) ?_
  simp only [argE_nil, argE_cons, Nat.reduceAdd, Nat.zero_add]
  have h5 : (#[Value.int .u64 996825010] ++ (#[Value.int .u64 642813549] ++ (#[Value.int .u64 513874426] ++ #[Value.int .u64 1027748829, Value.int .u64 705979059])) : Array Value).size = 5 := rfl
  have e : (#[Value.int .u64 996825010] ++ (#[Value.int .u64 642813549] ++ (#[Value.int .u64 513874426] ++ #[Value.int .u64 1027748829, Value.int .u64 705979059])) : Array Value) = (bechG.map U64).toArray := by kernel_rfl
  have hz : (zc [(5, Value.int .u64 0)]).size = 5 := by simp [size_zc]
  have hs : (bechG.map U64).toArray.size = 5 := rfl
  have hf : flat (bechG.map U64).toArray := by intro x hx; simp at hx; obtain ⟨y, _, rfl⟩ := hx; rfl
  have hb := u64_int hv
  (refine W_at c47_ok ?_; refine ⟨_, rfl, ?_⟩; simp (disch := first | omega | assumption | rfl | (simp only [vcS] <;> omega) | fail) only [↓ptV_l, ↓vcA, vcB, ↓vcD, vcE, ↓reduceIte, Nat.reduceEqDiff, Nat.reduceAdd, Nat.reduceMul, Nat.reduceLeDiff, Int.reduceLE, Int.reduceLT, Int.reduceEq, Int.reduceToNat, Int.reduceAdd, Int.reduceSub, Int.reduceMul, Int.reduceNeg, reduceCtorEq, Option.bind_some, Option.map_some, List.length_cons, List.length_nil, vcM, List.getElem?_toArray, List.getElem?_cons_zero, List.getElem?_cons_succ])
  (refine W_at c47_ok ?_; refine ⟨_, rfl, ?_⟩; simp (disch := first | omega | assumption | rfl | (simp only [vcS] <;> omega) | fail) only [↓ptV_l, ↓vcA, vcB, ↓vcD, vcE, ↓reduceIte, Nat.reduceEqDiff, Nat.reduceAdd, Nat.reduceMul, Nat.reduceLeDiff, Int.reduceLE, Int.reduceLT, Int.reduceEq, Int.reduceToNat, Int.reduceAdd, Int.reduceSub, Int.reduceMul, Int.reduceNeg, reduceCtorEq, Option.bind_some, Option.map_some, List.length_cons, List.length_nil, vcM, List.getElem?_toArray, List.getElem?_cons_zero, List.getElem?_cons_succ, hz, h5, e, hs])
  refine ⟨hf, ?_⟩
  have hE : Ext w ((w.alloc (.cells (zc [(5, .int .u64 0)]) 53)).putN w.heap.size 0 (bechG.map U64).toArray) := by (repeat' first | exact Keep.refl _ _ | assumption | refine Keep.drew ?_ | refine Keep.alloc ?_ _ | refine Keep.putN ?_ _ ?_ | refine Keep.setCell ?_ _ ?_ | refine Keep.setO ?_ _ ?_ | exact fun _ => Or.inl rfl | exact fun _ => Or.inr rfl | exact fun _ => rfl | (intro hh; exfalso; ((try simp only [vcS] at hh) <;> omega)))
  have hp : ((w.alloc (.cells (zc [(5, .int .u64 0)]) 53)).putN w.heap.size 0 (bechG.map U64).toArray).heap[w.heap.size]? = some (.cells (bechG.map U64).toArray 53 (0, 0)) := by
    rw [heap_putN_eq (heap_new _ _ _ rfl), splice_all (by rw [hs, hz])]
  generalize World.putN _ _ _ _ = w1 at hE hp ⊢
  generalize w.heap.size = p5 at hp ⊢
  (refine W_at c47_ok ?_; refine ⟨_, rfl, ?_⟩; simp (disch := first | omega | assumption | rfl | (simp only [vcS] <;> omega) | fail) only [↓ptV_l, ↓vcA, vcB, ↓vcD, vcE, ↓reduceIte, Nat.reduceEqDiff, Nat.reduceAdd, Nat.reduceMul, Nat.reduceLeDiff, Int.reduceLE, Int.reduceLT, Int.reduceEq, Int.reduceToNat, Int.reduceAdd, Int.reduceSub, Int.reduceMul, Int.reduceNeg, reduceCtorEq, Option.bind_some, Option.map_some, List.length_cons, List.length_nil, vcM, List.getElem?_toArray, List.getElem?_cons_zero, List.getElem?_cons_succ, U64_quoG])
  (refine W_at c47_ok ?_; refine ⟨_, rfl, ?_⟩; simp (disch := first | omega | assumption | rfl | (simp only [vcS] <;> omega) | fail) only [↓ptV_l, ↓vcA, vcB, ↓vcD, vcE, ↓reduceIte, Nat.reduceEqDiff, Nat.reduceAdd, Nat.reduceMul, Nat.reduceLeDiff, Int.reduceLE, Int.reduceLT, Int.reduceEq, Int.reduceToNat, Int.reduceAdd, Int.reduceSub, Int.reduceMul, Int.reduceNeg, reduceCtorEq, Option.bind_some, Option.map_some, List.length_cons, List.length_nil, vcM, List.getElem?_toArray, List.getElem?_cons_zero, List.getElem?_cons_succ, U64_remG, U64_mul32, hb, U64_xor])
  (refine W_at c47_ok ?_; refine ⟨_, rfl, ?_⟩; simp (disch := first | omega | assumption | rfl | (simp only [vcS] <;> omega) | fail) only [↓ptV_l, ↓vcA, vcB, ↓vcD, vcE, ↓reduceIte, Nat.reduceEqDiff, Nat.reduceAdd, Nat.reduceMul, Nat.reduceLeDiff, Int.reduceLE, Int.reduceLT, Int.reduceEq, Int.reduceToNat, Int.reduceAdd, Int.reduceSub, Int.reduceMul, Int.reduceNeg, reduceCtorEq, Option.bind_some, Option.map_some, List.length_cons, List.length_nil, vcM, List.getElem?_toArray, List.getElem?_cons_zero, List.getElem?_cons_succ])
  rw [quoG_is, remG_is]
  have L : ∀ (gl : List (BitVec 64)) (j : Nat) (d : BitVec 64) (tl : Env), bechG.drop j = gl → j ≤ 5 → mixF gl j (c >>> 25) d = stepB 25 bechG c v →
      W Tryd.prog (Ret fun u w' => u = U64 (stepB 25 bechG c v) ∧ Ext w w') 47 10 ((0, U64 d) :: (5, .pointer (some ⟨p5, 0, none⟩)) :: (6, U64 ((c >>> 25) >>> j)) :: (7, .int .i64 j) :: tl) w1 := by
    intro gl
    induction gl with
    | nil =>
      intro j d tl hgj hj hm
      have hj5 : ¬ ((j : Int) < 5) := by
        have := List.drop_eq_nil_iff.1 hgj
        have hl : bechG.length = 5 := rfl
        omega
      (refine W_at c47_ok ?_; refine ⟨_, rfl, ?_⟩; simp (disch := first | omega | assumption | rfl | (simp only [vcS] <;> omega) | fail) only [↓ptV_l, ↓vcA, vcB, ↓vcD, vcE, ↓reduceIte, Nat.reduceEqDiff, Nat.reduceAdd, Nat.reduceMul, Nat.reduceLeDiff, Int.reduceLE, Int.reduceLT, Int.reduceEq, Int.reduceToNat, Int.reduceAdd, Int.reduceSub, Int.reduceMul, Int.reduceNeg, reduceCtorEq, Option.bind_some, Option.map_some, List.length_cons, List.length_nil, vcM, List.getElem?_toArray, List.getElem?_cons_zero, List.getElem?_cons_succ, hj5])
      (refine W_at c47_ok ?_; refine ⟨_, rfl, ?_⟩; simp (disch := first | omega | assumption | rfl | (simp only [vcS] <;> omega) | fail) only [↓ptV_l, ↓vcA, vcB, ↓vcD, vcE, ↓reduceIte, Nat.reduceEqDiff, Nat.reduceAdd, Nat.reduceMul, Nat.reduceLeDiff, Int.reduceLE, Int.reduceLT, Int.reduceEq, Int.reduceToNat, Int.reduceAdd, Int.reduceSub, Int.reduceMul, Int.reduceNeg, reduceCtorEq, Option.bind_some, Option.map_some, List.length_cons, List.length_nil, vcM, List.getElem?_toArray, List.getElem?_cons_zero, List.getElem?_cons_succ])
      (refine W_at c47_ok ?_; refine ⟨_, rfl, ?_⟩; simp (disch := first | omega | assumption | rfl | (simp only [vcS] <;> omega) | fail) only [↓ptV_l, ↓vcA, vcB, ↓vcD, vcE, ↓reduceIte, Nat.reduceEqDiff, Nat.reduceAdd, Nat.reduceMul, Nat.reduceLeDiff, Int.reduceLE, Int.reduceLT, Int.reduceEq, Int.reduceToNat, Int.reduceAdd, Int.reduceSub, Int.reduceMul, Int.reduceNeg, reduceCtorEq, Option.bind_some, Option.map_some, List.length_cons, List.length_nil, vcM, List.getElem?_toArray, List.getElem?_cons_zero, List.getElem?_cons_succ])
      (refine W_at c47_ok ?_; refine ⟨_, rfl, ?_⟩; simp (disch := first | omega | assumption | rfl | (simp only [vcS] <;> omega) | fail) only [↓ptV_l, ↓vcA, vcB, ↓vcD, vcE, ↓reduceIte, Nat.reduceEqDiff, Nat.reduceAdd, Nat.reduceMul, Nat.reduceLeDiff, Int.reduceLE, Int.reduceLT, Int.reduceEq, Int.reduceToNat, Int.reduceAdd, Int.reduceSub, Int.reduceMul, Int.reduceNeg, reduceCtorEq, Option.bind_some, Option.map_some, List.length_cons, List.length_nil, vcM, List.getElem?_toArray, List.getElem?_cons_zero, List.getElem?_cons_succ, Ret_returned])
      have hm' : d = stepB 25 bechG c v := hm
      exact ⟨by rw [hm'], hE⟩
    | cons y gl ih =>
      intro j d tl hgj hj hm
      have hl : bechG.length = 5 := rfl
      have hjl : j < bechG.length := by
        rcases Nat.lt_or_ge j bechG.length with h | h
        · exact h
        · rw [List.drop_eq_nil_of_le h] at hgj; cases hgj
      rw [List.drop_eq_getElem_cons hjl] at hgj
      obtain ⟨hy, hrest⟩ := List.cons.inj hgj
      have hj5 : (j : Int) < 5 := by omega
      have hj2 : 0 ≤ (j : Int) ∧ (j : Int) < 5 := by omega
      have hgj2 : (bechG.map U64).toArray[j]? = some (U64 y) := by simp [hjl, hy]
      have hwj : IntKind.i64.wrap ((j : Int) + 1) = ((j + 1 : Nat) : Int) := wrap_i64 (by omega) (by omega)
      have hh := half_is (c >>> 25) j
      simp only [mixF] at hm
      (refine W_at c47_ok ?_; refine ⟨_, rfl, ?_⟩; simp (disch := first | omega | assumption | rfl | (simp only [vcS] <;> omega) | fail) only [↓ptV_l, ↓vcA, vcB, ↓vcD, vcE, ↓reduceIte, Nat.reduceEqDiff, Nat.reduceAdd, Nat.reduceMul, Nat.reduceLeDiff, Int.reduceLE, Int.reduceLT, Int.reduceEq, Int.reduceToNat, Int.reduceAdd, Int.reduceSub, Int.reduceMul, Int.reduceNeg, reduceCtorEq, Option.bind_some, Option.map_some, List.length_cons, List.length_nil, vcM, List.getElem?_toArray, List.getElem?_cons_zero, List.getElem?_cons_succ, hj5])
      (refine W_at c47_ok ?_; refine ⟨_, rfl, ?_⟩; simp (disch := first | omega | assumption | rfl | (simp only [vcS] <;> omega) | fail) only [↓ptV_l, ↓vcA, vcB, ↓vcD, vcE, ↓reduceIte, Nat.reduceEqDiff, Nat.reduceAdd, Nat.reduceMul, Nat.reduceLeDiff, Int.reduceLE, Int.reduceLT, Int.reduceEq, Int.reduceToNat, Int.reduceAdd, Int.reduceSub, Int.reduceMul, Int.reduceNeg, reduceCtorEq, Option.bind_some, Option.map_some, List.length_cons, List.length_nil, vcM, List.getElem?_toArray, List.getElem?_cons_zero, List.getElem?_cons_succ])
      by_cases hbit : ((c >>> 25) >>> j) &&& 1#64 = 1#64
      · have hbd : decide (((c >>> 25) >>> j) % 2#64 = 1#64) = true := decide_eq_true ((odd_is _).2 hbit)
        rw [if_pos hbit] at hm
        (refine W_at c47_ok ?_; refine ⟨_, rfl, ?_⟩; simp (disch := first | omega | assumption | rfl | (simp only [vcS] <;> omega) | fail) only [↓ptV_l, ↓vcA, vcB, ↓vcD, vcE, ↓reduceIte, Nat.reduceEqDiff, Nat.reduceAdd, Nat.reduceMul, Nat.reduceLeDiff, Int.reduceLE, Int.reduceLT, Int.reduceEq, Int.reduceToNat, Int.reduceAdd, Int.reduceSub, Int.reduceMul, Int.reduceNeg, reduceCtorEq, Option.bind_some, Option.map_some, List.length_cons, List.length_nil, vcM, List.getElem?_toArray, List.getElem?_cons_zero, List.getElem?_cons_succ, U64_rem2, U64_eql1, hbd])
        (refine W_at c47_ok ?_; refine ⟨_, rfl, ?_⟩; simp (disch := first | omega | assumption | rfl | (simp only [vcS] <;> omega) | fail) only [↓ptV_l, ↓vcA, vcB, ↓vcD, vcE, ↓reduceIte, Nat.reduceEqDiff, Nat.reduceAdd, Nat.reduceMul, Nat.reduceLeDiff, Int.reduceLE, Int.reduceLT, Int.reduceEq, Int.reduceToNat, Int.reduceAdd, Int.reduceSub, Int.reduceMul, Int.reduceNeg, reduceCtorEq, Option.bind_some, Option.map_some, List.length_cons, List.length_nil, vcM, List.getElem?_toArray, List.getElem?_cons_zero, List.getElem?_cons_succ])
        (refine W_at c47_ok ?_; refine ⟨_, rfl, ?_⟩; simp (disch := first | omega | assumption | rfl | (simp only [vcS] <;> omega) | fail) only [↓ptV_l, ↓vcA, vcB, ↓vcD, vcE, ↓reduceIte, Nat.reduceEqDiff, Nat.reduceAdd, Nat.reduceMul, Nat.reduceLeDiff, Int.reduceLE, Int.reduceLT, Int.reduceEq, Int.reduceToNat, Int.reduceAdd, Int.reduceSub, Int.reduceMul, Int.reduceNeg, reduceCtorEq, Option.bind_some, Option.map_some, List.length_cons, List.length_nil, vcM, List.getElem?_toArray, List.getElem?_cons_zero, List.getElem?_cons_succ, hj2, hp, hgj2, Int.toNat_natCast, Nat.mul_one, U64_xor])
        (refine W_at c47_ok ?_; refine ⟨_, rfl, ?_⟩; simp (disch := first | omega | assumption | rfl | (simp only [vcS] <;> omega) | fail) only [↓ptV_l, ↓vcA, vcB, ↓vcD, vcE, ↓reduceIte, Nat.reduceEqDiff, Nat.reduceAdd, Nat.reduceMul, Nat.reduceLeDiff, Int.reduceLE, Int.reduceLT, Int.reduceEq, Int.reduceToNat, Int.reduceAdd, Int.reduceSub, Int.reduceMul, Int.reduceNeg, reduceCtorEq, Option.bind_some, Option.map_some, List.length_cons, List.length_nil, vcM, List.getElem?_toArray, List.getElem?_cons_zero, List.getElem?_cons_succ, U64_quo2, hh])
        (refine W_at c47_ok ?_; refine ⟨_, rfl, ?_⟩; simp (disch := first | omega | assumption | rfl | (simp only [vcS] <;> omega) | fail) only [↓ptV_l, ↓vcA, vcB, ↓vcD, vcE, ↓reduceIte, Nat.reduceEqDiff, Nat.reduceAdd, Nat.reduceMul, Nat.reduceLeDiff, Int.reduceLE, Int.reduceLT, Int.reduceEq, Int.reduceToNat, Int.reduceAdd, Int.reduceSub, Int.reduceMul, Int.reduceNeg, reduceCtorEq, Option.bind_some, Option.map_some, List.length_cons, List.length_nil, vcM, List.getElem?_toArray, List.getElem?_cons_zero, List.getElem?_cons_succ, hwj])
        (refine W_at c47_ok ?_; refine ⟨_, rfl, ?_⟩; simp (disch := first | omega | assumption | rfl | (simp only [vcS] <;> omega) | fail) only [↓ptV_l, ↓vcA, vcB, ↓vcD, vcE, ↓reduceIte, Nat.reduceEqDiff, Nat.reduceAdd, Nat.reduceMul, Nat.reduceLeDiff, Int.reduceLE, Int.reduceLT, Int.reduceEq, Int.reduceToNat, Int.reduceAdd, Int.reduceSub, Int.reduceMul, Int.reduceNeg, reduceCtorEq, Option.bind_some, Option.map_some, List.length_cons, List.length_nil, vcM, List.getElem?_toArray, List.getElem?_cons_zero, List.getElem?_cons_succ])
        exact ih (j + 1) _ _ hrest (by omega) hm
      · have hbd : decide (((c >>> 25) >>> j) % 2#64 = 1#64) = false := decide_eq_false fun h => hbit ((odd_is _).1 h)
        rw [if_neg hbit] at hm
        (refine W_at c47_ok ?_; refine ⟨_, rfl, ?_⟩; simp (disch := first | omega | assumption | rfl | (simp only [vcS] <;> omega) | fail) only [↓ptV_l, ↓vcA, vcB, ↓vcD, vcE, ↓reduceIte, Nat.reduceEqDiff, Nat.reduceAdd, Nat.reduceMul, Nat.reduceLeDiff, Int.reduceLE, Int.reduceLT, Int.reduceEq, Int.reduceToNat, Int.reduceAdd, Int.reduceSub, Int.reduceMul, Int.reduceNeg, reduceCtorEq, Option.bind_some, Option.map_some, List.length_cons, List.length_nil, vcM, List.getElem?_toArray, List.getElem?_cons_zero, List.getElem?_cons_succ, U64_rem2, U64_eql1, hbd])
        (refine W_at c47_ok ?_; refine ⟨_, rfl, ?_⟩; simp (disch := first | omega | assumption | rfl | (simp only [vcS] <;> omega) | fail) only [↓ptV_l, ↓vcA, vcB, ↓vcD, vcE, ↓reduceIte, Nat.reduceEqDiff, Nat.reduceAdd, Nat.reduceMul, Nat.reduceLeDiff, Int.reduceLE, Int.reduceLT, Int.reduceEq, Int.reduceToNat, Int.reduceAdd, Int.reduceSub, Int.reduceMul, Int.reduceNeg, reduceCtorEq, Option.bind_some, Option.map_some, List.length_cons, List.length_nil, vcM, List.getElem?_toArray, List.getElem?_cons_zero, List.getElem?_cons_succ])
        (refine W_at c47_ok ?_; refine ⟨_, rfl, ?_⟩; simp (disch := first | omega | assumption | rfl | (simp only [vcS] <;> omega) | fail) only [↓ptV_l, ↓vcA, vcB, ↓vcD, vcE, ↓reduceIte, Nat.reduceEqDiff, Nat.reduceAdd, Nat.reduceMul, Nat.reduceLeDiff, Int.reduceLE, Int.reduceLT, Int.reduceEq, Int.reduceToNat, Int.reduceAdd, Int.reduceSub, Int.reduceMul, Int.reduceNeg, reduceCtorEq, Option.bind_some, Option.map_some, List.length_cons, List.length_nil, vcM, List.getElem?_toArray, List.getElem?_cons_zero, List.getElem?_cons_succ, U64_quo2, hh])
        (refine W_at c47_ok ?_; refine ⟨_, rfl, ?_⟩; simp (disch := first | omega | assumption | rfl | (simp only [vcS] <;> omega) | fail) only [↓ptV_l, ↓vcA, vcB, ↓vcD, vcE, ↓reduceIte, Nat.reduceEqDiff, Nat.reduceAdd, Nat.reduceMul, Nat.reduceLeDiff, Int.reduceLE, Int.reduceLT, Int.reduceEq, Int.reduceToNat, Int.reduceAdd, Int.reduceSub, Int.reduceMul, Int.reduceNeg, reduceCtorEq, Option.bind_some, Option.map_some, List.length_cons, List.length_nil, vcM, List.getElem?_toArray, List.getElem?_cons_zero, List.getElem?_cons_succ, hwj])
        (refine W_at c47_ok ?_; refine ⟨_, rfl, ?_⟩; simp (disch := first | omega | assumption | rfl | (simp only [vcS] <;> omega) | fail) only [↓ptV_l, ↓vcA, vcB, ↓vcD, vcE, ↓reduceIte, Nat.reduceEqDiff, Nat.reduceAdd, Nat.reduceMul, Nat.reduceLeDiff, Int.reduceLE, Int.reduceLT, Int.reduceEq, Int.reduceToNat, Int.reduceAdd, Int.reduceSub, Int.reduceMul, Int.reduceNeg, reduceCtorEq, Option.bind_some, Option.map_some, List.length_cons, List.length_nil, vcM, List.getElem?_toArray, List.getElem?_cons_zero, List.getElem?_cons_succ])
        exact ih (j + 1) _ _ hrest (by omega) hm
  have h0 := L bechG 0 _ [] rfl (by omega) (by rfl)
  simp only [BitVec.ushiftRight_zero] at h0
  exact h0

theorem quo_u8 {x : Int} (h : 0 ≤ x ∧ x ≤ 255) : x.tdiv 32 = x / 32 ∧ IntKind.u8.wrap (x / 32) = x / 32 ∧ x.tmod 32 = x % 32 := by
  refine ⟨Int.tdiv_eq_ediv_of_nonneg h.1, ?_, Int.tmod_eq_emod_of_nonneg h.1⟩
  rw [wrap_u8]; omega
theorem rG_step (c : BitVec 64) (v : Int) (l : List Int) : rG (stepB 25 bechG c v) l = rG c (v :: l) := rfl
set_option maxHeartbeats 1000000 in
theorem rsum_ok (w : World) (h d : List Int) (v : Value) (hb : byt h) (hl : h.length ≤ 1000) (hd : Rd w v d) (hdb : byt d) (hdl : d.length ≤ 1000) :
    Calls Tryd.prog 30 #[.string (strOf h), v] w (Ret fun u w' => u = U64 (runB 25 bechG (spreadF h ++ d)) ∧ Ext w w') := by
  refine calls_of_cfg c30_ok (Nat.le_of_ble_eq_true rfl) ?_
  simp only [argE_nil, argE_cons, Nat.reduceAdd, Nat.zero_add]
  have hsz := str_size h
  have e1 : Value.int .u64 1 = U64 1#64 := rfl
  have hF : runB 25 bechG (spreadF h ++ d) = rG 1#64 (h.map (· / 32) ++ 0 :: (h.map (· % 32) ++ d)) := by
    show rG _ _ = _
    simp [spreadF]
  rw [hF]
  -- the values
  have L3 : ∀ (k i : Nat) (c R : BitVec 64) (wj : World) (tl : Env), k + i = d.length → Ext w wj → rG c (d.drop i) = R →
      W Tryd.prog (Ret fun u w' => u = U64 R ∧ Ext w w') 30 7 ((1, v) :: (5, U64 c) :: (8, .int .i64 (i : Int)) :: tl) wj := by
    intro k
    induction k with
    | zero =>
      intro i c R wj tl hi hE hc
      have hlen := (hd.ext hE).len
      have hil : ¬ ((i : Int) < (d.length : Int)) := by omega
      rw [List.drop_eq_nil_of_le (by omega)] at hc
      have hc : c = R := hc
      subst hc
      (refine W_at c30_ok ?_; refine ⟨_, rfl, ?_⟩; simp (disch := first | omega | assumption | rfl | (simp only [vcS] <;> omega) | fail) only [↓ptV_l, ↓vcA, vcB, ↓vcD, vcE, ↓reduceIte, Nat.reduceEqDiff, Nat.reduceAdd, Nat.reduceMul, Nat.reduceLeDiff, Int.reduceLE, Int.reduceLT, Int.reduceEq, Int.reduceToNat, Int.reduceAdd, Int.reduceSub, Int.reduceMul, Int.reduceNeg, reduceCtorEq, Option.bind_some, Option.map_some, List.length_cons, List.length_nil, vcM, List.getElem?_toArray, List.getElem?_cons_zero, List.getElem?_cons_succ, hlen, hil])
      (refine W_at c30_ok ?_; refine ⟨_, rfl, ?_⟩; simp (disch := first | omega | assumption | rfl | (simp only [vcS] <;> omega) | fail) only [↓ptV_l, ↓vcA, vcB, ↓vcD, vcE, ↓reduceIte, Nat.reduceEqDiff, Nat.reduceAdd, Nat.reduceMul, Nat.reduceLeDiff, Int.reduceLE, Int.reduceLT, Int.reduceEq, Int.reduceToNat, Int.reduceAdd, Int.reduceSub, Int.reduceMul, Int.reduceNeg, reduceCtorEq, Option.bind_some, Option.map_some, List.length_cons, List.length_nil, vcM, List.getElem?_toArray, List.getElem?_cons_zero, List.getElem?_cons_succ])
      (refine W_at c30_ok ?_; refine ⟨_, rfl, ?_⟩; simp (disch := first | omega | assumption | rfl | (simp only [vcS] <;> omega) | fail) only [↓ptV_l, ↓vcA, vcB, ↓vcD, vcE, ↓reduceIte, Nat.reduceEqDiff, Nat.reduceAdd, Nat.reduceMul, Nat.reduceLeDiff, Int.reduceLE, Int.reduceLT, Int.reduceEq, Int.reduceToNat, Int.reduceAdd, Int.reduceSub, Int.reduceMul, Int.reduceNeg, reduceCtorEq, Option.bind_some, Option.map_some, List.length_cons, List.length_nil, vcM, List.getElem?_toArray, List.getElem?_cons_zero, List.getElem?_cons_succ])
      (refine W_at c30_ok ?_; refine ⟨_, rfl, ?_⟩; simp (disch := first | omega | assumption | rfl | (simp only [vcS] <;> omega) | fail) only [↓ptV_l, ↓vcA, vcB, ↓vcD, vcE, ↓reduceIte, Nat.reduceEqDiff, Nat.reduceAdd, Nat.reduceMul, Nat.reduceLeDiff, Int.reduceLE, Int.reduceLT, Int.reduceEq, Int.reduceToNat, Int.reduceAdd, Int.reduceSub, Int.reduceMul, Int.reduceNeg, reduceCtorEq, Option.bind_some, Option.map_some, List.length_cons, List.length_nil, vcM, List.getElem?_toArray, List.getElem?_cons_zero, List.getElem?_cons_succ, Ret_returned])
      first | exact hE | exact ⟨rfl, hE⟩
    | succ k ih =>
      intro i c R wj tl hi hE hc
      have hlen := (hd.ext hE).len
      have hil : (i : Int) < (d.length : Int) := by omega
      have hi2 : 0 ≤ (i : Int) ∧ (i : Int) < (d.length : Int) := by omega
      have hwi : IntKind.i64.wrap ((i : Int) + 1) = ((i + 1 : Nat) : Int) := wrap_i64 (by omega) (by omega)
      obtain ⟨b, o, cp, hv, hcell⟩ := (hd.ext hE).at (i := i) (by omega)
      have hx := hdb d[i] (List.getElem_mem _)
      rw [List.drop_eq_getElem_cons (by omega), ← rG_step] at hc
      subst hv
      (refine W_at c30_ok ?_; refine ⟨_, rfl, ?_⟩; simp (disch := first | omega | assumption | rfl | (simp only [vcS] <;> omega) | fail) only [↓ptV_l, ↓vcA, vcB, ↓vcD, vcE, ↓reduceIte, Nat.reduceEqDiff, Nat.reduceAdd, Nat.reduceMul, Nat.reduceLeDiff, Int.reduceLE, Int.reduceLT, Int.reduceEq, Int.reduceToNat, Int.reduceAdd, Int.reduceSub, Int.reduceMul, Int.reduceNeg, reduceCtorEq, Option.bind_some, Option.map_some, List.length_cons, List.length_nil, vcM, List.getElem?_toArray, List.getElem?_cons_zero, List.getElem?_cons_succ, hlen, hil])
      (refine W_at c30_ok ?_; refine ⟨_, rfl, ?_⟩; simp (disch := first | omega | assumption | rfl | (simp only [vcS] <;> omega) | fail) only [↓ptV_l, ↓vcA, vcB, ↓vcD, vcE, ↓reduceIte, Nat.reduceEqDiff, Nat.reduceAdd, Nat.reduceMul, Nat.reduceLeDiff, Int.reduceLE, Int.reduceLT, Int.reduceEq, Int.reduceToNat, Int.reduceAdd, Int.reduceSub, Int.reduceMul, Int.reduceNeg, reduceCtorEq, Option.bind_some, Option.map_some, List.length_cons, List.length_nil, vcM, List.getElem?_toArray, List.getElem?_cons_zero, List.getElem?_cons_succ])
      (refine W_at c30_ok ?_; refine ⟨_, rfl, ?_⟩; simp (disch := first | omega | assumption | rfl | (simp only [vcS] <;> omega) | fail) only [↓vcL1, ptS2_eq, ↓vcA, vcB, ↓vcD, vcE, ↓reduceIte, Nat.reduceEqDiff, Nat.reduceAdd, Nat.reduceMul, Nat.reduceLeDiff, Int.reduceLE, Int.reduceLT, Int.reduceEq, Int.reduceToNat, Int.reduceAdd, Int.reduceSub, Int.reduceMul, Int.reduceNeg, reduceCtorEq, Option.bind_some, Option.map_some, List.length_cons, List.length_nil, vcM, List.getElem?_toArray, List.getElem?_cons_zero, List.getElem?_cons_succ, hi2, hcell, Int.toNat_natCast, Nat.mul_one])
      generalize d[i] = x at *
      refine callV_ret (step_ok wj c x (by omega)) ?_
      rintro _ w2 ⟨rfl, hE2⟩
      simp (disch := first | omega | assumption | rfl | (simp only [vcS] <;> omega) | fail) only [↓vcL2, ptS1_eq, ↓vcA, vcB, ↓vcD, vcE, ↓reduceIte, Nat.reduceEqDiff, Nat.reduceAdd, Nat.reduceMul, Nat.reduceLeDiff, Int.reduceLE, Int.reduceLT, Int.reduceEq, Int.reduceToNat, Int.reduceAdd, Int.reduceSub, Int.reduceMul, Int.reduceNeg, reduceCtorEq, Option.bind_some, Option.map_some, List.length_cons, List.length_nil, vcM, List.getElem?_toArray, List.getElem?_cons_zero, List.getElem?_cons_succ]
      (refine W_at c30_ok ?_; refine ⟨_, rfl, ?_⟩; simp (disch := first | omega | assumption | rfl | (simp only [vcS] <;> omega) | fail) only [↓ptV_l, ↓vcA, vcB, ↓vcD, vcE, ↓reduceIte, Nat.reduceEqDiff, Nat.reduceAdd, Nat.reduceMul, Nat.reduceLeDiff, Int.reduceLE, Int.reduceLT, Int.reduceEq, Int.reduceToNat, Int.reduceAdd, Int.reduceSub, Int.reduceMul, Int.reduceNeg, reduceCtorEq, Option.bind_some, Option.map_some, List.length_cons, List.length_nil, vcM, List.getElem?_toArray, List.getElem?_cons_zero, List.getElem?_cons_succ, hwi])
      (refine W_at c30_ok ?_; refine ⟨_, rfl, ?_⟩; simp (disch := first | omega | assumption | rfl | (simp only [vcS] <;> omega) | fail) only [↓ptV_l, ↓vcA, vcB, ↓vcD, vcE, ↓reduceIte, Nat.reduceEqDiff, Nat.reduceAdd, Nat.reduceMul, Nat.reduceLeDiff, Int.reduceLE, Int.reduceLT, Int.reduceEq, Int.reduceToNat, Int.reduceAdd, Int.reduceSub, Int.reduceMul, Int.reduceNeg, reduceCtorEq, Option.bind_some, Option.map_some, List.length_cons, List.length_nil, vcM, List.getElem?_toArray, List.getElem?_cons_zero, List.getElem?_cons_succ])
      exact ih (i + 1) _ R w2 _ (by omega) (hE.ext hE2) hc
  -- the low bits
  have L2 : ∀ (k i : Nat) (c R : BitVec 64) (wj : World) (tl : Env), k + i = h.length → Ext w wj → rG c ((h.drop i).map (· % 32) ++ d) = R →
      W Tryd.prog (Ret fun u w' => u = U64 R ∧ Ext w w') 30 13 ((0, .string (strOf h)) :: (1, v) :: (5, U64 c) :: (7, .int .i64 (i : Int)) :: tl) wj := by
    intro k
    induction k with
    | zero =>
      intro i c R wj tl hi hE hc
      have hil : ¬ ((i : Int) < (h.length : Int)) := by omega
      rw [List.drop_eq_nil_of_le (by omega)] at hc
      (refine W_at c30_ok ?_; refine ⟨_, rfl, ?_⟩; simp (disch := first | omega | assumption | rfl | (simp only [vcS] <;> omega) | fail) only [↓ptV_l, ↓vcA, vcB, ↓vcD, vcE, ↓reduceIte, Nat.reduceEqDiff, Nat.reduceAdd, Nat.reduceMul, Nat.reduceLeDiff, Int.reduceLE, Int.reduceLT, Int.reduceEq, Int.reduceToNat, Int.reduceAdd, Int.reduceSub, Int.reduceMul, Int.reduceNeg, reduceCtorEq, Option.bind_some, Option.map_some, List.length_cons, List.length_nil, vcM, List.getElem?_toArray, List.getElem?_cons_zero, List.getElem?_cons_succ, hsz, hil])
      (refine W_at c30_ok ?_; refine ⟨_, rfl, ?_⟩; simp (disch := first | omega | assumption | rfl | (simp only [vcS] <;> omega) | fail) only [↓ptV_l, ↓vcA, vcB, ↓vcD, vcE, ↓reduceIte, Nat.reduceEqDiff, Nat.reduceAdd, Nat.reduceMul, Nat.reduceLeDiff, Int.reduceLE, Int.reduceLT, Int.reduceEq, Int.reduceToNat, Int.reduceAdd, Int.reduceSub, Int.reduceMul, Int.reduceNeg, reduceCtorEq, Option.bind_some, Option.map_some, List.length_cons, List.length_nil, vcM, List.getElem?_toArray, List.getElem?_cons_zero, List.getElem?_cons_succ])
      (refine W_at c30_ok ?_; refine ⟨_, rfl, ?_⟩; simp (disch := first | omega | assumption | rfl | (simp only [vcS] <;> omega) | fail) only [↓ptV_l, ↓vcA, vcB, ↓vcD, vcE, ↓reduceIte, Nat.reduceEqDiff, Nat.reduceAdd, Nat.reduceMul, Nat.reduceLeDiff, Int.reduceLE, Int.reduceLT, Int.reduceEq, Int.reduceToNat, Int.reduceAdd, Int.reduceSub, Int.reduceMul, Int.reduceNeg, reduceCtorEq, Option.bind_some, Option.map_some, List.length_cons, List.length_nil, vcM, List.getElem?_toArray, List.getElem?_cons_zero, List.getElem?_cons_succ])
      exact L3 d.length 0 c R wj _ (by omega) hE hc
    | succ k ih =>
      intro i c R wj tl hi hE hc
      have hil : (i : Int) < (h.length : Int) := by omega
      have h0 : 0 ≤ (i : Int) := by omega
      have hwi : IntKind.i64.wrap ((i : Int) + 1) = ((i + 1 : Nat) : Int) := wrap_i64 (by omega) (by omega)
      have g1 := str_get (bs := h) (i := i) (by omega)
      have hx := hb h[i] (List.getElem_mem _)
      have u1 := u8i hx
      rw [List.drop_eq_getElem_cons (by omega), List.map_cons, List.cons_append, ← rG_step] at hc
      generalize h[i] = x at *
      obtain ⟨q1, q2, q3⟩ := quo_u8 hx
      have h32 : ¬ (32 : Int) = 0 := by decide
      (refine W_at c30_ok ?_; refine ⟨_, rfl, ?_⟩; simp (disch := first | omega | assumption | rfl | (simp only [vcS] <;> omega) | fail) only [↓ptV_l, ↓vcA, vcB, ↓vcD, vcE, ↓reduceIte, Nat.reduceEqDiff, Nat.reduceAdd, Nat.reduceMul, Nat.reduceLeDiff, Int.reduceLE, Int.reduceLT, Int.reduceEq, Int.reduceToNat, Int.reduceAdd, Int.reduceSub, Int.reduceMul, Int.reduceNeg, reduceCtorEq, Option.bind_some, Option.map_some, List.length_cons, List.length_nil, vcM, List.getElem?_toArray, List.getElem?_cons_zero, List.getElem?_cons_succ, hsz, hil])
      (refine W_at c30_ok ?_; refine ⟨_, rfl, ?_⟩; simp (disch := first | omega | assumption | rfl | (simp only [vcS] <;> omega) | fail) only [↓ptV_l, ↓vcA, vcB, ↓vcD, vcE, ↓reduceIte, Nat.reduceEqDiff, Nat.reduceAdd, Nat.reduceMul, Nat.reduceLeDiff, Int.reduceLE, Int.reduceLT, Int.reduceEq, Int.reduceToNat, Int.reduceAdd, Int.reduceSub, Int.reduceMul, Int.reduceNeg, reduceCtorEq, Option.bind_some, Option.map_some, List.length_cons, List.length_nil, vcM, List.getElem?_toArray, List.getElem?_cons_zero, List.getElem?_cons_succ])
      (refine W_at c30_ok ?_; refine ⟨_, rfl, ?_⟩; simp (disch := first | omega | assumption | rfl | (simp only [vcS] <;> omega) | fail) only [↓vcL1, ptS2_eq, ↓vcA, vcB, ↓vcD, vcE, ↓reduceIte, Nat.reduceEqDiff, Nat.reduceAdd, Nat.reduceMul, Nat.reduceLeDiff, Int.reduceLE, Int.reduceLT, Int.reduceEq, Int.reduceToNat, Int.reduceAdd, Int.reduceSub, Int.reduceMul, Int.reduceNeg, reduceCtorEq, Option.bind_some, Option.map_some, List.length_cons, List.length_nil, vcM, List.getElem?_toArray, List.getElem?_cons_zero, List.getElem?_cons_succ, h0, Int.toNat_natCast, g1, u1, q3, h32])
      refine callV_ret (step_ok wj c (x % 32) (by omega)) ?_
      rintro _ w2 ⟨rfl, hE2⟩
      simp (disch := first | omega | assumption | rfl | (simp only [vcS] <;> omega) | fail) only [↓vcL2, ptS1_eq, ↓vcA, vcB, ↓vcD, vcE, ↓reduceIte, Nat.reduceEqDiff, Nat.reduceAdd, Nat.reduceMul, Nat.reduceLeDiff, Int.reduceLE, Int.reduceLT, Int.reduceEq, Int.reduceToNat, Int.reduceAdd, Int.reduceSub, Int.reduceMul, Int.reduceNeg, reduceCtorEq, Option.bind_some, Option.map_some, List.length_cons, List.length_nil, vcM, List.getElem?_toArray, List.getElem?_cons_zero, List.getElem?_cons_succ]
      (refine W_at c30_ok ?_; refine ⟨_, rfl, ?_⟩; simp (disch := first | omega | assumption | rfl | (simp only [vcS] <;> omega) | fail) only [↓ptV_l, ↓vcA, vcB, ↓vcD, vcE, ↓reduceIte, Nat.reduceEqDiff, Nat.reduceAdd, Nat.reduceMul, Nat.reduceLeDiff, Int.reduceLE, Int.reduceLT, Int.reduceEq, Int.reduceToNat, Int.reduceAdd, Int.reduceSub, Int.reduceMul, Int.reduceNeg, reduceCtorEq, Option.bind_some, Option.map_some, List.length_cons, List.length_nil, vcM, List.getElem?_toArray, List.getElem?_cons_zero, List.getElem?_cons_succ, hwi])
      (refine W_at c30_ok ?_; refine ⟨_, rfl, ?_⟩; simp (disch := first | omega | assumption | rfl | (simp only [vcS] <;> omega) | fail) only [↓ptV_l, ↓vcA, vcB, ↓vcD, vcE, ↓reduceIte, Nat.reduceEqDiff, Nat.reduceAdd, Nat.reduceMul, Nat.reduceLeDiff, Int.reduceLE, Int.reduceLT, Int.reduceEq, Int.reduceToNat, Int.reduceAdd, Int.reduceSub, Int.reduceMul, Int.reduceNeg, reduceCtorEq, Option.bind_some, Option.map_some, List.length_cons, List.length_nil, vcM, List.getElem?_toArray, List.getElem?_cons_zero, List.getElem?_cons_succ])
      exact ih (i + 1) _ R w2 _ (by omega) (hE.ext hE2) hc
  -- the high bits
  have L1 : ∀ (k i : Nat) (c R : BitVec 64) (wj : World) (tl : Env), k + i = h.length → Ext w wj → rG c ((h.drop i).map (· / 32) ++ 0 :: (h.map (· % 32) ++ d)) = R →
      W Tryd.prog (Ret fun u w' => u = U64 R ∧ Ext w w') 30 20 ((0, .string (strOf h)) :: (1, v) :: (5, U64 c) :: (6, .int .i64 (i : Int)) :: tl) wj := by
    intro k
    induction k with
    | zero =>
      intro i c R wj tl hi hE hc
      have hil : ¬ ((i : Int) < (h.length : Int)) := by omega
      rw [List.drop_eq_nil_of_le (by omega), List.map_nil, List.nil_append, ← rG_step] at hc
      (refine W_at c30_ok ?_; refine ⟨_, rfl, ?_⟩; simp (disch := first | omega | assumption | rfl | (simp only [vcS] <;> omega) | fail) only [↓ptV_l, ↓vcA, vcB, ↓vcD, vcE, ↓reduceIte, Nat.reduceEqDiff, Nat.reduceAdd, Nat.reduceMul, Nat.reduceLeDiff, Int.reduceLE, Int.reduceLT, Int.reduceEq, Int.reduceToNat, Int.reduceAdd, Int.reduceSub, Int.reduceMul, Int.reduceNeg, reduceCtorEq, Option.bind_some, Option.map_some, List.length_cons, List.length_nil, vcM, List.getElem?_toArray, List.getElem?_cons_zero, List.getElem?_cons_succ, hsz, hil])
      (refine W_at c30_ok ?_; refine ⟨_, rfl, ?_⟩; simp (disch := first | omega | assumption | rfl | (simp only [vcS] <;> omega) | fail) only [↓ptV_l, ↓vcA, vcB, ↓vcD, vcE, ↓reduceIte, Nat.reduceEqDiff, Nat.reduceAdd, Nat.reduceMul, Nat.reduceLeDiff, Int.reduceLE, Int.reduceLT, Int.reduceEq, Int.reduceToNat, Int.reduceAdd, Int.reduceSub, Int.reduceMul, Int.reduceNeg, reduceCtorEq, Option.bind_some, Option.map_some, List.length_cons, List.length_nil, vcM, List.getElem?_toArray, List.getElem?_cons_zero, List.getElem?_cons_succ])
      (refine W_at c30_ok ?_; refine ⟨_, rfl, ?_⟩; simp (disch := first | omega | assumption | rfl | (simp only [vcS] <;> omega) | fail) only [↓vcL1, ptS2_eq, ↓vcA, vcB, ↓vcD, vcE, ↓reduceIte, Nat.reduceEqDiff, Nat.reduceAdd, Nat.reduceMul, Nat.reduceLeDiff, Int.reduceLE, Int.reduceLT, Int.reduceEq, Int.reduceToNat, Int.reduceAdd, Int.reduceSub, Int.reduceMul, Int.reduceNeg, reduceCtorEq, Option.bind_some, Option.map_some, List.length_cons, List.length_nil, vcM, List.getElem?_toArray, List.getElem?_cons_zero, List.getElem?_cons_succ])
      refine callV_ret (step_ok wj c 0 (by decide)) ?_
      rintro _ w2 ⟨rfl, hE2⟩
      simp (disch := first | omega | assumption | rfl | (simp only [vcS] <;> omega) | fail) only [↓vcL2, ptS1_eq, ↓vcA, vcB, ↓vcD, vcE, ↓reduceIte, Nat.reduceEqDiff, Nat.reduceAdd, Nat.reduceMul, Nat.reduceLeDiff, Int.reduceLE, Int.reduceLT, Int.reduceEq, Int.reduceToNat, Int.reduceAdd, Int.reduceSub, Int.reduceMul, Int.reduceNeg, reduceCtorEq, Option.bind_some, Option.map_some, List.length_cons, List.length_nil, vcM, List.getElem?_toArray, List.getElem?_cons_zero, List.getElem?_cons_succ]
      (refine W_at c30_ok ?_; refine ⟨_, rfl, ?_⟩; simp (disch := first | omega | assumption | rfl | (simp only [vcS] <;> omega) | fail) only [↓ptV_l, ↓vcA, vcB, ↓vcD, vcE, ↓reduceIte, Nat.reduceEqDiff, Nat.reduceAdd, Nat.reduceMul, Nat.reduceLeDiff, Int.reduceLE, Int.reduceLT, Int.reduceEq, Int.reduceToNat, Int.reduceAdd, Int.reduceSub, Int.reduceMul, Int.reduceNeg, reduceCtorEq, Option.bind_some, Option.map_some, List.length_cons, List.length_nil, vcM, List.getElem?_toArray, List.getElem?_cons_zero, List.getElem?_cons_succ])
      exact L2 h.length 0 _ R w2 _ (by omega) (hE.ext hE2) hc
    | succ k ih =>
      intro i c R wj tl hi hE hc
      have hil : (i : Int) < (h.length : Int) := by omega
      have h0 : 0 ≤ (i : Int) := by omega
      have hwi : IntKind.i64.wrap ((i : Int) + 1) = ((i + 1 : Nat) : Int) := wrap_i64 (by omega) (by omega)
      have g1 := str_get (bs := h) (i := i) (by omega)
      have hx := hb h[i] (List.getElem_mem _)
      have u1 := u8i hx
      rw [List.drop_eq_getElem_cons (by omega), List.map_cons, List.cons_append, ← rG_step] at hc
      generalize h[i] = x at *
      obtain ⟨q1, q2, q3⟩ := quo_u8 hx
      have h32 : ¬ (32 : Int) = 0 := by decide
      (refine W_at c30_ok ?_; refine ⟨_, rfl, ?_⟩; simp (disch := first | omega | assumption | rfl | (simp only [vcS] <;> omega) | fail) only [↓ptV_l, ↓vcA, vcB, ↓vcD, vcE, ↓reduceIte, Nat.reduceEqDiff, Nat.reduceAdd, Nat.reduceMul, Nat.reduceLeDiff, Int.reduceLE, Int.reduceLT, Int.reduceEq, Int.reduceToNat, Int.reduceAdd, Int.reduceSub, Int.reduceMul, Int.reduceNeg, reduceCtorEq, Option.bind_some, Option.map_some, List.length_cons, List.length_nil, vcM, List.getElem?_toArray, List.getElem?_cons_zero, List.getElem?_cons_succ, hsz, hil])
      (refine W_at c30_ok ?_; refine ⟨_, rfl, ?_⟩; simp (disch := first | omega | assumption | rfl | (simp only [vcS] <;> omega) | fail) only [↓ptV_l, ↓vcA, vcB, ↓vcD, vcE, ↓reduceIte, Nat.reduceEqDiff, Nat.reduceAdd, Nat.reduceMul, Nat.reduceLeDiff, Int.reduceLE, Int.reduceLT, Int.reduceEq, Int.reduceToNat, Int.reduceAdd, Int.reduceSub, Int.reduceMul, Int.reduceNeg, reduceCtorEq, Option.bind_some, Option.map_some, List.length_cons, List.length_nil, vcM, List.getElem?_toArray, List.getElem?_cons_zero, List.getElem?_cons_succ])
      (refine W_at c30_ok ?_; refine ⟨_, rfl, ?_⟩; simp (disch := first | omega | assumption | rfl | (simp only [vcS] <;> omega) | fail) only [↓vcL1, ptS2_eq, ↓vcA, vcB, ↓vcD, vcE, ↓reduceIte, Nat.reduceEqDiff, Nat.reduceAdd, Nat.reduceMul, Nat.reduceLeDiff, Int.reduceLE, Int.reduceLT, Int.reduceEq, Int.reduceToNat, Int.reduceAdd, Int.reduceSub, Int.reduceMul, Int.reduceNeg, reduceCtorEq, Option.bind_some, Option.map_some, List.length_cons, List.length_nil, vcM, List.getElem?_toArray, List.getElem?_cons_zero, List.getElem?_cons_succ, h0, Int.toNat_natCast, g1, u1, q1, q2, h32])
      refine callV_ret (step_ok wj c (x / 32) (by omega)) ?_
      rintro _ w2 ⟨rfl, hE2⟩
      simp (disch := first | omega | assumption | rfl | (simp only [vcS] <;> omega) | fail) only [↓vcL2, ptS1_eq, ↓vcA, vcB, ↓vcD, vcE, ↓reduceIte, Nat.reduceEqDiff, Nat.reduceAdd, Nat.reduceMul, Nat.reduceLeDiff, Int.reduceLE, Int.reduceLT, Int.reduceEq, Int.reduceToNat, Int.reduceAdd, Int.reduceSub, Int.reduceMul, Int.reduceNeg, reduceCtorEq, Option.bind_some, Option.map_some, List.length_cons, List.length_nil, vcM, List.getElem?_toArray, List.getElem?_cons_zero, List.getElem?_cons_succ]
      (refine W_at c30_ok ?_; refine ⟨_, rfl, ?_⟩; simp (disch := first | omega | assumption | rfl | (simp only [vcS] <;> omega) | fail) only [↓ptV_l, ↓vcA, vcB, ↓vcD, vcE, ↓reduceIte, Nat.reduceEqDiff, Nat.reduceAdd, Nat.reduceMul, Nat.reduceLeDiff, Int.reduceLE, Int.reduceLT, Int.reduceEq, Int.reduceToNat, Int.reduceAdd, Int.reduceSub, Int.reduceMul, Int.reduceNeg, reduceCtorEq, Option.bind_some, Option.map_some, List.length_cons, List.length_nil, vcM, List.getElem?_toArray, List.getElem?_cons_zero, List.getElem?_cons_succ, hwi])
      (refine W_at c30_ok ?_; refine ⟨_, rfl, ?_⟩; simp (disch := first | omega | assumption | rfl | (simp only [vcS] <;> omega) | fail) only [↓ptV_l, ↓vcA, vcB, ↓vcD, vcE, ↓reduceIte, Nat.reduceEqDiff, Nat.reduceAdd, Nat.reduceMul, Nat.reduceLeDiff, Int.reduceLE, Int.reduceLT, Int.reduceEq, Int.reduceToNat, Int.reduceAdd, Int.reduceSub, Int.reduceMul, Int.reduceNeg, reduceCtorEq, Option.bind_some, Option.map_some, List.length_cons, List.length_nil, vcM, List.getElem?_toArray, List.getElem?_cons_zero, List.getElem?_cons_succ])
      exact ih (i + 1) _ R w2 _ (by omega) (hE.ext hE2) hc
  (refine W_at c30_ok ?_; refine ⟨_, rfl, ?_⟩; simp (disch := first | omega | assumption | rfl | (simp only [vcS] <;> omega) | fail) only [↓ptV_l, ↓vcA, vcB, ↓vcD, vcE, ↓reduceIte, Nat.reduceEqDiff, Nat.reduceAdd, Nat.reduceMul, Nat.reduceLeDiff, Int.reduceLE, Int.reduceLT, Int.reduceEq, Int.reduceToNat, Int.reduceAdd, Int.reduceSub, Int.reduceMul, Int.reduceNeg, reduceCtorEq, Option.bind_some, Option.map_some, List.length_cons, List.length_nil, vcM, List.getElem?_toArray, List.getElem?_cons_zero, List.getElem?_cons_succ])
  (refine W_at c30_ok ?_; refine ⟨_, rfl, ?_⟩; simp (disch := first | omega | assumption | rfl | (simp only [vcS] <;> omega) | fail) only [↓ptV_l, ↓vcA, vcB, ↓vcD, vcE, ↓reduceIte, Nat.reduceEqDiff, Nat.reduceAdd, Nat.reduceMul, Nat.reduceLeDiff, Int.reduceLE, Int.reduceLT, Int.reduceEq, Int.reduceToNat, Int.reduceAdd, Int.reduceSub, Int.reduceMul, Int.reduceNeg, reduceCtorEq, Option.bind_some, Option.map_some, List.length_cons, List.length_nil, vcM, List.getElem?_toArray, List.getElem?_cons_zero, List.getElem?_cons_succ, e1])
  (refine W_at c30_ok ?_; refine ⟨_, rfl, ?_⟩; simp (disch := first | omega | assumption | rfl | (simp only [vcS] <;> omega) | fail) only [↓ptV_l, ↓vcA, vcB, ↓vcD, vcE, ↓reduceIte, Nat.reduceEqDiff, Nat.reduceAdd, Nat.reduceMul, Nat.reduceLeDiff, Int.reduceLE, Int.reduceLT, Int.reduceEq, Int.reduceToNat, Int.reduceAdd, Int.reduceSub, Int.reduceMul, Int.reduceNeg, reduceCtorEq, Option.bind_some, Option.map_some, List.length_cons, List.length_nil, vcM, List.getElem?_toArray, List.getElem?_cons_zero, List.getElem?_cons_succ])
  exact L1 h.length 0 _ _ w _ (by omega) (Keep.refl _ w) rfl
end Go.Proofs
namespace Go.Proofs
open Go.Vc
set_option maxRecDepth 10000

/-- The six letters, written. -/
theorem rbech_letters (w0 : World) (A : List Int) (X : BitVec 64) (hA : A.length ≤ 1000) : ∀ (k : Nat) (wk : World) (tl : Env), k ≤ 6 → Ext w0 wk →
    W Tryd.prog (Ret fun x w' => x = bechR (A ++ (lettersF X 6).map l32F, 0) ∧ Ext w0 w') 11 7 ((9, .string (strOf (A ++ ((lettersF X 6).map l32F).take (6 - k)))) :: (11, U64 X) :: (12, .int .i64 ((k : Int) - 1)) :: tl) wk := by
  have hll : (lettersF X 6).length = 6 := by simp [lettersF]
  intro k
  induction k with
  | zero =>
    intro wk tl hk hE
    have h1 : ¬ 0 ≤ ((0 : Nat) : Int) - 1 := by omega
    rw [List.take_of_length_le (by simp [hll])]
    (refine W_at c11_ok ?_; refine ⟨_, rfl, ?_⟩; simp (disch := first | omega | assumption | rfl | (simp only [vcS] <;> omega) | fail) only [↓ptV_l, ↓vcA, vcB, ↓vcD, vcE, ↓reduceIte, Nat.reduceEqDiff, Nat.reduceAdd, Nat.reduceMul, Nat.reduceLeDiff, Int.reduceLE, Int.reduceLT, Int.reduceEq, Int.reduceToNat, Int.reduceAdd, Int.reduceSub, Int.reduceMul, Int.reduceNeg, reduceCtorEq, Option.bind_some, Option.map_some, List.length_cons, List.length_nil, vcM, List.getElem?_toArray, List.getElem?_cons_zero, List.getElem?_cons_succ, h1])
    (refine W_at c11_ok ?_; refine ⟨_, rfl, ?_⟩; simp (disch := first | omega | assumption | rfl | (simp only [vcS] <;> omega) | fail) only [↓ptV_l, ↓vcA, vcB, ↓vcD, vcE, ↓reduceIte, Nat.reduceEqDiff, Nat.reduceAdd, Nat.reduceMul, Nat.reduceLeDiff, Int.reduceLE, Int.reduceLT, Int.reduceEq, Int.reduceToNat, Int.reduceAdd, Int.reduceSub, Int.reduceMul, Int.reduceNeg, reduceCtorEq, Option.bind_some, Option.map_some, List.length_cons, List.length_nil, vcM, List.getElem?_toArray, List.getElem?_cons_zero, List.getElem?_cons_succ])
    (refine W_at c11_ok ?_; refine ⟨_, rfl, ?_⟩; simp (disch := first | omega | assumption | rfl | (simp only [vcS] <;> omega) | fail) only [↓ptV_l, ↓vcA, vcB, ↓vcD, vcE, ↓reduceIte, Nat.reduceEqDiff, Nat.reduceAdd, Nat.reduceMul, Nat.reduceLeDiff, Int.reduceLE, Int.reduceLT, Int.reduceEq, Int.reduceToNat, Int.reduceAdd, Int.reduceSub, Int.reduceMul, Int.reduceNeg, reduceCtorEq, Option.bind_some, Option.map_some, List.length_cons, List.length_nil, vcM, List.getElem?_toArray, List.getElem?_cons_zero, List.getElem?_cons_succ])
    (refine W_at c11_ok ?_; refine ⟨_, rfl, ?_⟩; simp (disch := first | omega | assumption | rfl | (simp only [vcS] <;> omega) | fail) only [↓ptV_l, ↓vcA, vcB, ↓vcD, vcE, ↓reduceIte, Nat.reduceEqDiff, Nat.reduceAdd, Nat.reduceMul, Nat.reduceLeDiff, Int.reduceLE, Int.reduceLT, Int.reduceEq, Int.reduceToNat, Int.reduceAdd, Int.reduceSub, Int.reduceMul, Int.reduceNeg, reduceCtorEq, Option.bind_some, Option.map_some, List.length_cons, List.length_nil, vcM, List.getElem?_toArray, List.getElem?_cons_zero, List.getElem?_cons_succ, Ret_returned])
    exact ⟨rfl, hE⟩
  | succ k ih =>
    intro wk tl hk hE
    have h1 : 0 ≤ ((k + 1 : Nat) : Int) - 1 := by omega
    have e1 : ((k + 1 : Nat) : Int) - 1 = ((k : Nat) : Int) := by omega
    have w5 : IntKind.i64.wrap (5 * ((k : Nat) : Int)) = ((5 * k : Nat) : Int) := by rw [wrap_i64 (by omega) (by omega)]; omega
    have w6 : IntKind.u64.wrap ((5 * k : Nat) : Int) = ((5 * k : Nat) : Int) := by rw [wrap_u64]; omega
    have w7 : IntKind.i64.wrap (((k : Nat) : Int) - 1) = ((k : Nat) : Int) - 1 := wrap_i64 (by omega) (by omega)
    have s1 := U64_shr X .u64 (5 * k) (by omega)
    have hx := and31_lt (X >>> (5 * k))
    have g1 : (strOf l32S)[((X >>> (5 * k)) % 32#64).toNat]? = some (UInt8.ofNat (l32F (((X >>> (5 * k)) &&& 31#64).toNat : Int)).toNat) := by
      rw [rem32_is]
      have := l32_at (x := (((X >>> (5 * k)) &&& 31#64).toNat : Int)) (by omega)
      simpa using this
    have u1 := u8i (l32F_b (x := (((X >>> (5 * k)) &&& 31#64).toNat : Int)) (by omega))
    have ht : A ++ ((lettersF X 6).map l32F).take (6 - k) = A ++ ((lettersF X 6).map l32F).take (6 - (k + 1)) ++ [l32F (((X >>> (5 * k)) &&& 31#64).toNat : Int)] := by
      have e8 : 6 - k = (6 - (k + 1)) + 1 := by omega
      rw [e8, List.take_succ_eq_append_getElem (by simp [hll]; omega), ← List.append_assoc]
      simp [lettersF]
      congr 4
      omega
    rw [e1] at h1 ⊢
    (refine W_at c11_ok ?_; refine ⟨_, rfl, ?_⟩; simp (disch := first | omega | assumption | rfl | (simp only [vcS] <;> omega) | fail) only [↓ptV_l, ↓vcA, vcB, ↓vcD, vcE, ↓reduceIte, Nat.reduceEqDiff, Nat.reduceAdd, Nat.reduceMul, Nat.reduceLeDiff, Int.reduceLE, Int.reduceLT, Int.reduceEq, Int.reduceToNat, Int.reduceAdd, Int.reduceSub, Int.reduceMul, Int.reduceNeg, reduceCtorEq, Option.bind_some, Option.map_some, List.length_cons, List.length_nil, vcM, List.getElem?_toArray, List.getElem?_cons_zero, List.getElem?_cons_succ, h1])
    (refine W_at c11_ok ?_; refine ⟨_, rfl, ?_⟩; simp (disch := first | omega | assumption | rfl | (simp only [vcS] <;> omega) | fail) only [↓ptV_l, ↓vcA, vcB, ↓vcD, vcE, ↓reduceIte, Nat.reduceEqDiff, Nat.reduceAdd, Nat.reduceMul, Nat.reduceLeDiff, Int.reduceLE, Int.reduceLT, Int.reduceEq, Int.reduceToNat, Int.reduceAdd, Int.reduceSub, Int.reduceMul, Int.reduceNeg, reduceCtorEq, Option.bind_some, Option.map_some, List.length_cons, List.length_nil, vcM, List.getElem?_toArray, List.getElem?_cons_zero, List.getElem?_cons_succ])
    have hpl : (A ++ ((lettersF X 6).map l32F).take (6 - (k + 1))).length ≤ 2000 := by rw [List.length_append, List.length_take]; omega
    generalize l32F (((X >>> (5 * k)) &&& 31#64).toNat : Int) = y at *
    have hN : New wk (wk.alloc (.cells (bv [y]).toArray 5)) (.slice (some ⟨wk.heap.size, 0, none⟩) 1 1) [y] := New.lit (bs := [y]) (by simp [maxLen])
    have hb2 : b2sR (wk.alloc (.cells ([Value.int .u8 y] ++ []).toArray 5)) (.slice (some ⟨wk.heap.size, 0, none⟩) 1 1) = some (.string (strOf [y])) := hN.own.rd.b2s
    have hfit := concat_fits (a := A ++ ((lettersF X 6).map l32F).take (6 - (k + 1))) (b := [y]) (by rw [List.length_cons, List.length_nil]; omega)
    have happ := str_app (A ++ ((lettersF X 6).map l32F).take (6 - (k + 1))) [y]
    (refine W_at c11_ok ?_; refine ⟨_, rfl, ?_⟩; simp (disch := first | omega | assumption | rfl | (simp only [vcS] <;> omega) | fail) only [↓ptV_l, ↓vcA, vcB, ↓vcD, vcE, ↓reduceIte, Nat.reduceEqDiff, Nat.reduceAdd, Nat.reduceMul, Nat.reduceLeDiff, Int.reduceLE, Int.reduceLT, Int.reduceEq, Int.reduceToNat, Int.reduceAdd, Int.reduceSub, Int.reduceMul, Int.reduceNeg, reduceCtorEq, Option.bind_some, Option.map_some, List.length_cons, List.length_nil, vcM, List.getElem?_toArray, List.getElem?_cons_zero, List.getElem?_cons_succ, w5, w6, s1, U64_rem32, l32S_is, idxS_U, g1, u1, hb2, bin_sadd, hfit, happ])
    rw [← ht]
    (refine W_at c11_ok ?_; refine ⟨_, rfl, ?_⟩; simp (disch := first | omega | assumption | rfl | (simp only [vcS] <;> omega) | fail) only [↓ptV_l, ↓vcA, vcB, ↓vcD, vcE, ↓reduceIte, Nat.reduceEqDiff, Nat.reduceAdd, Nat.reduceMul, Nat.reduceLeDiff, Int.reduceLE, Int.reduceLT, Int.reduceEq, Int.reduceToNat, Int.reduceAdd, Int.reduceSub, Int.reduceMul, Int.reduceNeg, reduceCtorEq, Option.bind_some, Option.map_some, List.length_cons, List.length_nil, vcM, List.getElem?_toArray, List.getElem?_cons_zero, List.getElem?_cons_succ, w7])
    (refine W_at c11_ok ?_; refine ⟨_, rfl, ?_⟩; simp (disch := first | omega | assumption | rfl | (simp only [vcS] <;> omega) | fail) only [↓ptV_l, ↓vcA, vcB, ↓vcD, vcE, ↓reduceIte, Nat.reduceEqDiff, Nat.reduceAdd, Nat.reduceMul, Nat.reduceLeDiff, Int.reduceLE, Int.reduceLT, Int.reduceEq, Int.reduceToNat, Int.reduceAdd, Int.reduceSub, Int.reduceMul, Int.reduceNeg, reduceCtorEq, Option.bind_some, Option.map_some, List.length_cons, List.length_nil, vcM, List.getElem?_toArray, List.getElem?_cons_zero, List.getElem?_cons_succ])
    exact ih _ _ (by omega) (hE.ext hN.ext)
/-- The sum, and its letters. -/
theorem rbech_sum (w0 w : World) (h d : List Int) (m : Bool) (v : Value) (i : Int) (tl : Env) (hE : Ext w0 w) (hb : byt h) (hd : Rd w v d) (hd5 : five d) (hl : h.length + d.length ≤ 900) :
    W Tryd.prog (Ret fun x w' => x = bechR (bechF h d m, 0) ∧ Ext w0 w') 11 13 ((0, .string (strOf h)) :: (1, v) :: (2, .bool m) :: (9, .string (strOf (h ++ [49] ++ d.map l32F))) :: (10, .int .i64 i) :: tl) w := by
  have e1 : Value.int .u64 1 = U64 (constB false) := rfl
  have e2 : Value.int .u64 734539939 = U64 (constB true) := rfl
  have hF : bechF h d m = h ++ [49] ++ d.map l32F ++ (lettersF (sumX h d m) 6).map l32F := by simp [bechF, sumL]
  have hN0 : New w (w.alloc (.cells (bv []).toArray 5)) (.slice (some ⟨w.heap.size, 0, none⟩) 0 0) [] := New.lit (bs := []) (by simp [maxLen])
  (refine W_at c11_ok ?_; refine ⟨_, rfl, ?_⟩; simp (disch := first | omega | assumption | rfl | (simp only [vcS] <;> omega) | fail) only [↓ptV_l, ↓vcA, vcB, ↓vcD, vcE, ↓reduceIte, Nat.reduceEqDiff, Nat.reduceAdd, Nat.reduceMul, Nat.reduceLeDiff, Int.reduceLE, Int.reduceLT, Int.reduceEq, Int.reduceToNat, Int.reduceAdd, Int.reduceSub, Int.reduceMul, Int.reduceNeg, reduceCtorEq, Option.bind_some, Option.map_some, List.length_cons, List.length_nil, vcM, List.getElem?_toArray, List.getElem?_cons_zero, List.getElem?_cons_succ])
  refine appN hN0 (hd.ext hN0.ext) (by rw [List.length_nil]; omega) fun v1 w1 n1 _ _ => ?_
  rw [List.nil_append] at n1
  first | (simp (disch := first | omega | assumption | rfl | (simp only [vcS] <;> omega) | fail) only [↓ptV_l, ↓vcA, vcB, ↓vcD, vcE, ↓reduceIte, Nat.reduceEqDiff, Nat.reduceAdd, Nat.reduceMul, Nat.reduceLeDiff, Int.reduceLE, Int.reduceLT, Int.reduceEq, Int.reduceToNat, Int.reduceAdd, Int.reduceSub, Int.reduceMul, Int.reduceNeg, reduceCtorEq, Option.bind_some, Option.map_some, List.length_cons, List.length_nil, vcM, List.getElem?_toArray, List.getElem?_cons_zero, List.getElem?_cons_succ]) | skip
  refine appNL (news := List.replicate 6 0) n1 (by rw [List.length_replicate]; omega) fun v2 w2 n2 _ _ => ?_
  first | (simp (disch := first | omega | assumption | rfl | (simp only [vcS] <;> omega) | fail) only [↓ptV_l, ↓vcA, vcB, ↓vcD, vcE, ↓reduceIte, Nat.reduceEqDiff, Nat.reduceAdd, Nat.reduceMul, Nat.reduceLeDiff, Int.reduceLE, Int.reduceLT, Int.reduceEq, Int.reduceToNat, Int.reduceAdd, Int.reduceSub, Int.reduceMul, Int.reduceNeg, reduceCtorEq, Option.bind_some, Option.map_some, List.length_cons, List.length_nil, vcM, List.getElem?_toArray, List.getElem?_cons_zero, List.getElem?_cons_succ]) | skip
  refine callV_ret (rsum_ok w2 h (d ++ List.replicate 6 0) v2 hb (by omega) n2.own.rd (byt_app (five_byt hd5) (five_byt (five_rep 6))) (by rw [List.length_append, List.length_replicate]; omega)) ?_
  rintro _ w3 ⟨rfl, hE3⟩
  have hE4 : Ext w0 w3 := hE.ext (n2.ext.ext hE3)
  rw [← List.append_assoc]
  first | (simp (disch := first | omega | assumption | rfl | (simp only [vcS] <;> omega) | fail) only [↓ptV_l, ↓vcA, vcB, ↓vcD, vcE, ↓reduceIte, Nat.reduceEqDiff, Nat.reduceAdd, Nat.reduceMul, Nat.reduceLeDiff, Int.reduceLE, Int.reduceLT, Int.reduceEq, Int.reduceToNat, Int.reduceAdd, Int.reduceSub, Int.reduceMul, Int.reduceNeg, reduceCtorEq, Option.bind_some, Option.map_some, List.length_cons, List.length_nil, vcM, List.getElem?_toArray, List.getElem?_cons_zero, List.getElem?_cons_succ]) | skip
  have fin : ∀ tl, W Tryd.prog (Ret fun x w' => x = bechR (bechF h d m, 0) ∧ Ext w0 w') 11 8 ((9, .string (strOf (h ++ [49] ++ d.map l32F))) :: (11, U64 (sumX h d m)) :: tl) w3 := fun tl => by
    rw [hF]
    (refine W_at c11_ok ?_; refine ⟨_, rfl, ?_⟩; simp (disch := first | omega | assumption | rfl | (simp only [vcS] <;> omega) | fail) only [↓ptV_l, ↓vcA, vcB, ↓vcD, vcE, ↓reduceIte, Nat.reduceEqDiff, Nat.reduceAdd, Nat.reduceMul, Nat.reduceLeDiff, Int.reduceLE, Int.reduceLT, Int.reduceEq, Int.reduceToNat, Int.reduceAdd, Int.reduceSub, Int.reduceMul, Int.reduceNeg, reduceCtorEq, Option.bind_some, Option.map_some, List.length_cons, List.length_nil, vcM, List.getElem?_toArray, List.getElem?_cons_zero, List.getElem?_cons_succ])
    have := rbech_letters w0 (h ++ [49] ++ d.map l32F) (sumX h d m) (by simp; omega) 6 w3 [] (by omega) hE4
    rw [Nat.sub_self, List.take_zero, List.append_nil] at this
    exact this
  cases m with
  | true =>
    have hx := U64_xor (runB 25 bechG (spreadF h ++ d ++ List.replicate 6 0)) (constB true)
    (refine W_at c11_ok ?_; refine ⟨_, rfl, ?_⟩; simp (disch := first | omega | assumption | rfl | (simp only [vcS] <;> omega) | fail) only [↓ptV_l, ↓vcA, vcB, ↓vcD, vcE, ↓reduceIte, Nat.reduceEqDiff, Nat.reduceAdd, Nat.reduceMul, Nat.reduceLeDiff, Int.reduceLE, Int.reduceLT, Int.reduceEq, Int.reduceToNat, Int.reduceAdd, Int.reduceSub, Int.reduceMul, Int.reduceNeg, reduceCtorEq, Option.bind_some, Option.map_some, List.length_cons, List.length_nil, vcM, List.getElem?_toArray, List.getElem?_cons_zero, List.getElem?_cons_succ])
    (refine W_at c11_ok ?_; refine ⟨_, rfl, ?_⟩; simp (disch := first | omega | assumption | rfl | (simp only [vcS] <;> omega) | fail) only [↓ptV_l, ↓vcA, vcB, ↓vcD, vcE, ↓reduceIte, Nat.reduceEqDiff, Nat.reduceAdd, Nat.reduceMul, Nat.reduceLeDiff, Int.reduceLE, Int.reduceLT, Int.reduceEq, Int.reduceToNat, Int.reduceAdd, Int.reduceSub, Int.reduceMul, Int.reduceNeg, reduceCtorEq, Option.bind_some, Option.map_some, List.length_cons, List.length_nil, vcM, List.getElem?_toArray, List.getElem?_cons_zero, List.getElem?_cons_succ])
    (refine W_at c11_ok ?_; refine ⟨_, rfl, ?_⟩; simp (disch := first | omega | assumption | rfl | (simp only [vcS] <;> omega) | fail) only [↓ptV_l, ↓vcA, vcB, ↓vcD, vcE, ↓reduceIte, Nat.reduceEqDiff, Nat.reduceAdd, Nat.reduceMul, Nat.reduceLeDiff, Int.reduceLE, Int.reduceLT, Int.reduceEq, Int.reduceToNat, Int.reduceAdd, Int.reduceSub, Int.reduceMul, Int.reduceNeg, reduceCtorEq, Option.bind_some, Option.map_some, List.length_cons, List.length_nil, vcM, List.getElem?_toArray, List.getElem?_cons_zero, List.getElem?_cons_succ, e2, hx])
    exact fin _
  | false =>
    have hx := U64_xor (runB 25 bechG (spreadF h ++ d ++ List.replicate 6 0)) (constB false)
    (refine W_at c11_ok ?_; refine ⟨_, rfl, ?_⟩; simp (disch := first | omega | assumption | rfl | (simp only [vcS] <;> omega) | fail) only [↓ptV_l, ↓vcA, vcB, ↓vcD, vcE, ↓reduceIte, Nat.reduceEqDiff, Nat.reduceAdd, Nat.reduceMul, Nat.reduceLeDiff, Int.reduceLE, Int.reduceLT, Int.reduceEq, Int.reduceToNat, Int.reduceAdd, Int.reduceSub, Int.reduceMul, Int.reduceNeg, reduceCtorEq, Option.bind_some, Option.map_some, List.length_cons, List.length_nil, vcM, List.getElem?_toArray, List.getElem?_cons_zero, List.getElem?_cons_succ])
    (refine W_at c11_ok ?_; refine ⟨_, rfl, ?_⟩; simp (disch := first | omega | assumption | rfl | (simp only [vcS] <;> omega) | fail) only [↓ptV_l, ↓vcA, vcB, ↓vcD, vcE, ↓reduceIte, Nat.reduceEqDiff, Nat.reduceAdd, Nat.reduceMul, Nat.reduceLeDiff, Int.reduceLE, Int.reduceLT, Int.reduceEq, Int.reduceToNat, Int.reduceAdd, Int.reduceSub, Int.reduceMul, Int.reduceNeg, reduceCtorEq, Option.bind_some, Option.map_some, List.length_cons, List.length_nil, vcM, List.getElem?_toArray, List.getElem?_cons_zero, List.getElem?_cons_succ])
    (refine W_at c11_ok ?_; refine ⟨_, rfl, ?_⟩; simp (disch := first | omega | assumption | rfl | (simp only [vcS] <;> omega) | fail) only [↓ptV_l, ↓vcA, vcB, ↓vcD, vcE, ↓reduceIte, Nat.reduceEqDiff, Nat.reduceAdd, Nat.reduceMul, Nat.reduceLeDiff, Int.reduceLE, Int.reduceLT, Int.reduceEq, Int.reduceToNat, Int.reduceAdd, Int.reduceSub, Int.reduceMul, Int.reduceNeg, reduceCtorEq, Option.bind_some, Option.map_some, List.length_cons, List.length_nil, vcM, List.getElem?_toArray, List.getElem?_cons_zero, List.getElem?_cons_succ, e1, hx])
    exact fin _
set_option maxHeartbeats 1000000 in
theorem rbech_ok (w : World) (h d : List Int) (m : Bool) (v : Value) (hb : byt h) (hm : h.length ≤ maxLen) (hd : Rd w v d) (hdb : byt d) (hdl : d.length ≤ 1000000) :
    Calls Tryd.prog 11 #[.string (strOf h), v, .bool m] w (Ret fun x w' => x = bechR (bechE h d m) ∧ Ext w w') := by
  refine calls_of_cfg c11_ok (Nat.le_of_ble_eq_true rfl) ?_
  simp only [argE_nil, argE_cons, Nat.reduceAdd, Nat.zero_add]
  have hsz := str_size h
  have hlen := hd.len
  have hml : maxLen = 9223372036854775807 := rfl
  have size : 83 < h.length ∨ 90 < h.length + 1 + d.length + 6 → ∀ tl, W Tryd.prog (Ret fun x w' => x = bechR (bechE h d m) ∧ Ext w w') 11 40 ((0, .string (strOf h)) :: (1, v) :: (2, .bool m) :: (24, .bool true) :: tl) w := fun hc tl => by
    rw [bechE, if_pos hc]
    (refine W_at c11_ok ?_; refine ⟨_, rfl, ?_⟩; simp (disch := first | omega | assumption | rfl | (simp only [vcS] <;> omega) | fail) only [↓ptV_l, ↓vcA, vcB, ↓vcD, vcE, ↓reduceIte, Nat.reduceEqDiff, Nat.reduceAdd, Nat.reduceMul, Nat.reduceLeDiff, Int.reduceLE, Int.reduceLT, Int.reduceEq, Int.reduceToNat, Int.reduceAdd, Int.reduceSub, Int.reduceMul, Int.reduceNeg, reduceCtorEq, Option.bind_some, Option.map_some, List.length_cons, List.length_nil, vcM, List.getElem?_toArray, List.getElem?_cons_zero, List.getElem?_cons_succ])
    (refine W_at c11_ok ?_; refine ⟨_, rfl, ?_⟩; simp (disch := first | omega | assumption | rfl | (simp only [vcS] <;> omega) | fail) only [↓ptV_l, ↓vcA, vcB, ↓vcD, vcE, ↓reduceIte, Nat.reduceEqDiff, Nat.reduceAdd, Nat.reduceMul, Nat.reduceLeDiff, Int.reduceLE, Int.reduceLT, Int.reduceEq, Int.reduceToNat, Int.reduceAdd, Int.reduceSub, Int.reduceMul, Int.reduceNeg, reduceCtorEq, Option.bind_some, Option.map_some, List.length_cons, List.length_nil, vcM, List.getElem?_toArray, List.getElem?_cons_zero, List.getElem?_cons_succ])
    (refine W_at c11_ok ?_; refine ⟨_, rfl, ?_⟩; simp (disch := first | omega | assumption | rfl | (simp only [vcS] <;> omega) | fail) only [↓ptV_l, ↓vcA, vcB, ↓vcD, vcE, ↓reduceIte, Nat.reduceEqDiff, Nat.reduceAdd, Nat.reduceMul, Nat.reduceLeDiff, Int.reduceLE, Int.reduceLT, Int.reduceEq, Int.reduceToNat, Int.reduceAdd, Int.reduceSub, Int.reduceMul, Int.reduceNeg, reduceCtorEq, Option.bind_some, Option.map_some, List.length_cons, List.length_nil, vcM, List.getElem?_toArray, List.getElem?_cons_zero, List.getElem?_cons_succ, Ret_returned])
    exact ⟨rfl, Keep.refl _ w⟩
  (refine W_at c11_ok ?_; refine ⟨_, rfl, ?_⟩; simp (disch := first | omega | assumption | rfl | (simp only [vcS] <;> omega) | fail) only [↓ptV_l, ↓vcA, vcB, ↓vcD, vcE, ↓reduceIte, Nat.reduceEqDiff, Nat.reduceAdd, Nat.reduceMul, Nat.reduceLeDiff, Int.reduceLE, Int.reduceLT, Int.reduceEq, Int.reduceToNat, Int.reduceAdd, Int.reduceSub, Int.reduceMul, Int.reduceNeg, reduceCtorEq, Option.bind_some, Option.map_some, List.length_cons, List.length_nil, vcM, List.getElem?_toArray, List.getElem?_cons_zero, List.getElem?_cons_succ])
  by_cases c1 : 83 < h.length
  · have k1 : (83 : Int) < (h.length : Int) := by omega
    (refine W_at c11_ok ?_; refine ⟨_, rfl, ?_⟩; simp (disch := first | omega | assumption | rfl | (simp only [vcS] <;> omega) | fail) only [↓ptV_l, ↓vcA, vcB, ↓vcD, vcE, ↓reduceIte, Nat.reduceEqDiff, Nat.reduceAdd, Nat.reduceMul, Nat.reduceLeDiff, Int.reduceLE, Int.reduceLT, Int.reduceEq, Int.reduceToNat, Int.reduceAdd, Int.reduceSub, Int.reduceMul, Int.reduceNeg, reduceCtorEq, Option.bind_some, Option.map_some, List.length_cons, List.length_nil, vcM, List.getElem?_toArray, List.getElem?_cons_zero, List.getElem?_cons_succ, hsz, k1])
    exact size (.inl c1) _
  have k1 : ¬ (83 : Int) < (h.length : Int) := by omega
  have a2 : IntKind.i64.wrap ((h.length : Int) + (d.length : Int)) = ((h.length + d.length : Nat) : Int) := by rw [wrap_i64 (by omega) (by omega)]; omega
  have a3 : IntKind.i64.wrap (((h.length + d.length : Nat) : Int) + 7) = ((h.length + d.length + 7 : Nat) : Int) := by rw [wrap_i64 (by omega) (by omega)]; omega
  by_cases c2 : 90 < h.length + d.length + 7
  · have k2 : (90 : Int) < ((h.length + d.length + 7 : Nat) : Int) := by omega
    (refine W_at c11_ok ?_; refine ⟨_, rfl, ?_⟩; simp (disch := first | omega | assumption | rfl | (simp only [vcS] <;> omega) | fail) only [↓ptV_l, ↓vcA, vcB, ↓vcD, vcE, ↓reduceIte, Nat.reduceEqDiff, Nat.reduceAdd, Nat.reduceMul, Nat.reduceLeDiff, Int.reduceLE, Int.reduceLT, Int.reduceEq, Int.reduceToNat, Int.reduceAdd, Int.reduceSub, Int.reduceMul, Int.reduceNeg, reduceCtorEq, Option.bind_some, Option.map_some, List.length_cons, List.length_nil, vcM, List.getElem?_toArray, List.getElem?_cons_zero, List.getElem?_cons_succ, hsz, k1, hlen, a2, a3, k2])
    exact size (.inr (by omega)) _
  have k2 : ¬ (90 : Int) < ((h.length + d.length + 7 : Nat) : Int) := by omega
  have hno : ¬ (83 < h.length ∨ 90 < h.length + 1 + d.length + 6) := by omega
  clear size
  have bad : ∀ {P : Prop}, (P → (h = [] ∨ okH h = false ∨ d.any (fun v => decide (31 < v)) = true)) → P → bechR (bechE h d m) = .tuple #[.string ⟨#[]⟩, .int .i64 3] := fun hp p => by
    rw [bechE, if_neg hno, if_pos (hp p)]; rfl
  (refine W_at c11_ok ?_; refine ⟨_, rfl, ?_⟩; simp (disch := first | omega | assumption | rfl | (simp only [vcS] <;> omega) | fail) only [↓ptV_l, ↓vcA, vcB, ↓vcD, vcE, ↓reduceIte, Nat.reduceEqDiff, Nat.reduceAdd, Nat.reduceMul, Nat.reduceLeDiff, Int.reduceLE, Int.reduceLT, Int.reduceEq, Int.reduceToNat, Int.reduceAdd, Int.reduceSub, Int.reduceMul, Int.reduceNeg, reduceCtorEq, Option.bind_some, Option.map_some, List.length_cons, List.length_nil, vcM, List.getElem?_toArray, List.getElem?_cons_zero, List.getElem?_cons_succ, hsz, k1, hlen, a2, a3, k2])
  (refine W_at c11_ok ?_; refine ⟨_, rfl, ?_⟩; simp (disch := first | omega | assumption | rfl | (simp only [vcS] <;> omega) | fail) only [↓ptV_l, ↓vcA, vcB, ↓vcD, vcE, ↓reduceIte, Nat.reduceEqDiff, Nat.reduceAdd, Nat.reduceMul, Nat.reduceLeDiff, Int.reduceLE, Int.reduceLT, Int.reduceEq, Int.reduceToNat, Int.reduceAdd, Int.reduceSub, Int.reduceMul, Int.reduceNeg, reduceCtorEq, Option.bind_some, Option.map_some, List.length_cons, List.length_nil, vcM, List.getElem?_toArray, List.getElem?_cons_zero, List.getElem?_cons_succ])
  have hnil : decide (strOf h = ⟨#[]⟩) = decide (h = []) := by
    have e : (⟨#[]⟩ : ByteArray) = strOf [] := rfl
    rw [e]
    exact decide_eq_decide.2 (strOf_inj hb byt_nil)
  by_cases h0 : h = []
  · have hd0 := decide_eq_true h0
    rw [bad (P := h = []) .inl h0]
    rw [hd0] at hnil
    (refine W_at c11_ok ?_; refine ⟨_, rfl, ?_⟩; simp (disch := first | omega | assumption | rfl | (simp only [vcS] <;> omega) | fail) only [↓ptV_l, ↓vcA, vcB, ↓vcD, vcE, ↓reduceIte, Nat.reduceEqDiff, Nat.reduceAdd, Nat.reduceMul, Nat.reduceLeDiff, Int.reduceLE, Int.reduceLT, Int.reduceEq, Int.reduceToNat, Int.reduceAdd, Int.reduceSub, Int.reduceMul, Int.reduceNeg, reduceCtorEq, Option.bind_some, Option.map_some, List.length_cons, List.length_nil, vcM, List.getElem?_toArray, List.getElem?_cons_zero, List.getElem?_cons_succ, hnil])
    (refine W_at c11_ok ?_; refine ⟨_, rfl, ?_⟩; simp (disch := first | omega | assumption | rfl | (simp only [vcS] <;> omega) | fail) only [↓ptV_l, ↓vcA, vcB, ↓vcD, vcE, ↓reduceIte, Nat.reduceEqDiff, Nat.reduceAdd, Nat.reduceMul, Nat.reduceLeDiff, Int.reduceLE, Int.reduceLT, Int.reduceEq, Int.reduceToNat, Int.reduceAdd, Int.reduceSub, Int.reduceMul, Int.reduceNeg, reduceCtorEq, Option.bind_some, Option.map_some, List.length_cons, List.length_nil, vcM, List.getElem?_toArray, List.getElem?_cons_zero, List.getElem?_cons_succ])
    (refine W_at c11_ok ?_; refine ⟨_, rfl, ?_⟩; simp (disch := first | omega | assumption | rfl | (simp only [vcS] <;> omega) | fail) only [↓ptV_l, ↓vcA, vcB, ↓vcD, vcE, ↓reduceIte, Nat.reduceEqDiff, Nat.reduceAdd, Nat.reduceMul, Nat.reduceLeDiff, Int.reduceLE, Int.reduceLT, Int.reduceEq, Int.reduceToNat, Int.reduceAdd, Int.reduceSub, Int.reduceMul, Int.reduceNeg, reduceCtorEq, Option.bind_some, Option.map_some, List.length_cons, List.length_nil, vcM, List.getElem?_toArray, List.getElem?_cons_zero, List.getElem?_cons_succ])
    (refine W_at c11_ok ?_; refine ⟨_, rfl, ?_⟩; simp (disch := first | omega | assumption | rfl | (simp only [vcS] <;> omega) | fail) only [↓ptV_l, ↓vcA, vcB, ↓vcD, vcE, ↓reduceIte, Nat.reduceEqDiff, Nat.reduceAdd, Nat.reduceMul, Nat.reduceLeDiff, Int.reduceLE, Int.reduceLT, Int.reduceEq, Int.reduceToNat, Int.reduceAdd, Int.reduceSub, Int.reduceMul, Int.reduceNeg, reduceCtorEq, Option.bind_some, Option.map_some, List.length_cons, List.length_nil, vcM, List.getElem?_toArray, List.getElem?_cons_zero, List.getElem?_cons_succ, Ret_returned])
    first | exact Keep.refl _ w | exact ⟨rfl, Keep.refl _ w⟩
  have hd0 := decide_eq_false h0
  rw [hd0] at hnil
  -- the values
  have L2 : ∀ (k i : Nat) (wj : World) (tl : Env), k + i = d.length → Ext w wj → okH h = true → bigV (d.take i) = false → byt (d.take i) →
      W Tryd.prog (Ret fun x w' => x = bechR (bechE h d m) ∧ Ext w w') 11 22 ((0, .string (strOf h)) :: (1, v) :: (2, .bool m) :: (9, .string (strOf (h ++ [49] ++ (d.take i).map l32F))) :: (10, .int .i64 (i : Int)) :: tl) wj := by
    intro k
    induction k with
    | zero =>
      intro i wj tl hi hE hk hv htb
      have hil : ¬ ((i : Int) < (d.length : Int)) := by omega
      have hlen := (hd.ext hE).len
      rw [List.take_of_length_le (by omega)] at hv ⊢
      have hE2 : bechE h d m = (bechF h d m, 0) := by
        rw [bechE, if_neg hno, if_neg]
        rintro (h1 | h1 | h1)
        · exact h0 h1
        · rw [hk] at h1; cases h1
        · unfold bigV at hv; rw [hv] at h1; cases h1
      rw [hE2]
      (refine W_at c11_ok ?_; refine ⟨_, rfl, ?_⟩; simp (disch := first | omega | assumption | rfl | (simp only [vcS] <;> omega) | fail) only [↓ptV_l, ↓vcA, vcB, ↓vcD, vcE, ↓reduceIte, Nat.reduceEqDiff, Nat.reduceAdd, Nat.reduceMul, Nat.reduceLeDiff, Int.reduceLE, Int.reduceLT, Int.reduceEq, Int.reduceToNat, Int.reduceAdd, Int.reduceSub, Int.reduceMul, Int.reduceNeg, reduceCtorEq, Option.bind_some, Option.map_some, List.length_cons, List.length_nil, vcM, List.getElem?_toArray, List.getElem?_cons_zero, List.getElem?_cons_succ, hlen, hil])
      (refine W_at c11_ok ?_; refine ⟨_, rfl, ?_⟩; simp (disch := first | omega | assumption | rfl | (simp only [vcS] <;> omega) | fail) only [↓ptV_l, ↓vcA, vcB, ↓vcD, vcE, ↓reduceIte, Nat.reduceEqDiff, Nat.reduceAdd, Nat.reduceMul, Nat.reduceLeDiff, Int.reduceLE, Int.reduceLT, Int.reduceEq, Int.reduceToNat, Int.reduceAdd, Int.reduceSub, Int.reduceMul, Int.reduceNeg, reduceCtorEq, Option.bind_some, Option.map_some, List.length_cons, List.length_nil, vcM, List.getElem?_toArray, List.getElem?_cons_zero, List.getElem?_cons_succ])
      exact rbech_sum w wj h d m v _ _ hE hb (hd.ext hE) (bigV_five hdb hv) (by omega)
    | succ k ih =>
      intro i wj tl hi hE hk hv htb
      have hil : (i : Int) < (d.length : Int) := by omega
      have hi2 : 0 ≤ (i : Int) ∧ (i : Int) < (d.length : Int) := by omega
      have hwi : IntKind.i64.wrap ((i : Int) + 1) = ((i + 1 : Nat) : Int) := wrap_i64 (by omega) (by omega)
      obtain ⟨g, o, c, hv3, hcell⟩ := (hd.ext hE).at (i := i) (by omega)
      have hlen := (hd.ext hE).len
      have hxb := hdb d[i] (List.getElem_mem _)
      have hxm : d[i] ∈ d := List.getElem_mem _
      have hbt := bigV_take (d := d) (i := i) (by omega)
      have ht : h ++ [49] ++ (d.take (i + 1)).map l32F = h ++ [49] ++ (d.take i).map l32F ++ [l32F d[i]] := by rw [List.take_succ_eq_append_getElem (by omega), List.map_append, ← List.append_assoc]; rfl
      have hih := ih (i + 1)
      rw [ht, hbt, hv] at hih
      have hpl : (h ++ [49] ++ (d.take i).map l32F).length ≤ 2000 := by simp [List.length_take]; omega
      clear ht hbt
      subst hv3
      (refine W_at c11_ok ?_; refine ⟨_, rfl, ?_⟩; simp (disch := first | omega | assumption | rfl | (simp only [vcS] <;> omega) | fail) only [↓ptV_l, ↓vcA, vcB, ↓vcD, vcE, ↓reduceIte, Nat.reduceEqDiff, Nat.reduceAdd, Nat.reduceMul, Nat.reduceLeDiff, Int.reduceLE, Int.reduceLT, Int.reduceEq, Int.reduceToNat, Int.reduceAdd, Int.reduceSub, Int.reduceMul, Int.reduceNeg, reduceCtorEq, Option.bind_some, Option.map_some, List.length_cons, List.length_nil, vcM, List.getElem?_toArray, List.getElem?_cons_zero, List.getElem?_cons_succ, hlen, hil])
      (refine W_at c11_ok ?_; refine ⟨_, rfl, ?_⟩; simp (disch := first | omega | assumption | rfl | (simp only [vcS] <;> omega) | fail) only [↓ptV_l, ↓vcA, vcB, ↓vcD, vcE, ↓reduceIte, Nat.reduceEqDiff, Nat.reduceAdd, Nat.reduceMul, Nat.reduceLeDiff, Int.reduceLE, Int.reduceLT, Int.reduceEq, Int.reduceToNat, Int.reduceAdd, Int.reduceSub, Int.reduceMul, Int.reduceNeg, reduceCtorEq, Option.bind_some, Option.map_some, List.length_cons, List.length_nil, vcM, List.getElem?_toArray, List.getElem?_cons_zero, List.getElem?_cons_succ])
      generalize d[i] = x at *
      by_cases hx : 31 < x
      · rw [bad (P := 31 < x) (fun hx => .inr (.inr (List.any_eq_true.2 ⟨x, hxm, decide_eq_true hx⟩))) hx]
        (refine W_at c11_ok ?_; refine ⟨_, rfl, ?_⟩; simp (disch := first | omega | assumption | rfl | (simp only [vcS] <;> omega) | fail) only [↓ptV_l, ↓vcA, vcB, ↓vcD, vcE, ↓reduceIte, Nat.reduceEqDiff, Nat.reduceAdd, Nat.reduceMul, Nat.reduceLeDiff, Int.reduceLE, Int.reduceLT, Int.reduceEq, Int.reduceToNat, Int.reduceAdd, Int.reduceSub, Int.reduceMul, Int.reduceNeg, reduceCtorEq, Option.bind_some, Option.map_some, List.length_cons, List.length_nil, vcM, List.getElem?_toArray, List.getElem?_cons_zero, List.getElem?_cons_succ, hi2, hcell, Int.toNat_natCast, Nat.mul_one, hx])
        (refine W_at c11_ok ?_; refine ⟨_, rfl, ?_⟩; simp (disch := first | omega | assumption | rfl | (simp only [vcS] <;> omega) | fail) only [↓ptV_l, ↓vcA, vcB, ↓vcD, vcE, ↓reduceIte, Nat.reduceEqDiff, Nat.reduceAdd, Nat.reduceMul, Nat.reduceLeDiff, Int.reduceLE, Int.reduceLT, Int.reduceEq, Int.reduceToNat, Int.reduceAdd, Int.reduceSub, Int.reduceMul, Int.reduceNeg, reduceCtorEq, Option.bind_some, Option.map_some, List.length_cons, List.length_nil, vcM, List.getElem?_toArray, List.getElem?_cons_zero, List.getElem?_cons_succ])
        (refine W_at c11_ok ?_; refine ⟨_, rfl, ?_⟩; simp (disch := first | omega | assumption | rfl | (simp only [vcS] <;> omega) | fail) only [↓ptV_l, ↓vcA, vcB, ↓vcD, vcE, ↓reduceIte, Nat.reduceEqDiff, Nat.reduceAdd, Nat.reduceMul, Nat.reduceLeDiff, Int.reduceLE, Int.reduceLT, Int.reduceEq, Int.reduceToNat, Int.reduceAdd, Int.reduceSub, Int.reduceMul, Int.reduceNeg, reduceCtorEq, Option.bind_some, Option.map_some, List.length_cons, List.length_nil, vcM, List.getElem?_toArray, List.getElem?_cons_zero, List.getElem?_cons_succ])
        (refine W_at c11_ok ?_; refine ⟨_, rfl, ?_⟩; simp (disch := first | omega | assumption | rfl | (simp only [vcS] <;> omega) | fail) only [↓ptV_l, ↓vcA, vcB, ↓vcD, vcE, ↓reduceIte, Nat.reduceEqDiff, Nat.reduceAdd, Nat.reduceMul, Nat.reduceLeDiff, Int.reduceLE, Int.reduceLT, Int.reduceEq, Int.reduceToNat, Int.reduceAdd, Int.reduceSub, Int.reduceMul, Int.reduceNeg, reduceCtorEq, Option.bind_some, Option.map_some, List.length_cons, List.length_nil, vcM, List.getElem?_toArray, List.getElem?_cons_zero, List.getElem?_cons_succ, Ret_returned])
        first | exact hE | exact ⟨rfl, hE⟩
      · have g1 := l32_at (x := x) (by omega)
        have u1 := u8i (l32F_b (x := x) (by omega))
        have hx0 := hxb.1
        (refine W_at c11_ok ?_; refine ⟨_, rfl, ?_⟩; simp (disch := first | omega | assumption | rfl | (simp only [vcS] <;> omega) | fail) only [↓ptV_l, ↓vcA, vcB, ↓vcD, vcE, ↓reduceIte, Nat.reduceEqDiff, Nat.reduceAdd, Nat.reduceMul, Nat.reduceLeDiff, Int.reduceLE, Int.reduceLT, Int.reduceEq, Int.reduceToNat, Int.reduceAdd, Int.reduceSub, Int.reduceMul, Int.reduceNeg, reduceCtorEq, Option.bind_some, Option.map_some, List.length_cons, List.length_nil, vcM, List.getElem?_toArray, List.getElem?_cons_zero, List.getElem?_cons_succ, hi2, hcell, Int.toNat_natCast, Nat.mul_one, hx])
        (refine W_at c11_ok ?_; refine ⟨_, rfl, ?_⟩; simp (disch := first | omega | assumption | rfl | (simp only [vcS] <;> omega) | fail) only [↓ptV_l, ↓vcA, vcB, ↓vcD, vcE, ↓reduceIte, Nat.reduceEqDiff, Nat.reduceAdd, Nat.reduceMul, Nat.reduceLeDiff, Int.reduceLE, Int.reduceLT, Int.reduceEq, Int.reduceToNat, Int.reduceAdd, Int.reduceSub, Int.reduceMul, Int.reduceNeg, reduceCtorEq, Option.bind_some, Option.map_some, List.length_cons, List.length_nil, vcM, List.getElem?_toArray, List.getElem?_cons_zero, List.getElem?_cons_succ])
        generalize l32F x = y at *
        have hN : New wj (wj.alloc (.cells (bv [y]).toArray 5)) (.slice (some ⟨wj.heap.size, 0, none⟩) 1 1) [y] := New.lit (bs := [y]) (by simp [maxLen])
        have hb2 : b2sR (wj.alloc (.cells ([Value.int .u8 y] ++ []).toArray 5)) (.slice (some ⟨wj.heap.size, 0, none⟩) 1 1) = some (.string (strOf [y])) := hN.own.rd.b2s
        have hfit := concat_fits (a := h ++ [49] ++ (d.take i).map l32F) (b := [y]) (by rw [List.length_cons, List.length_nil]; omega)
        have happ := str_app (h ++ [49] ++ (d.take i).map l32F) [y]
        (refine W_at c11_ok ?_; refine ⟨_, rfl, ?_⟩; simp (disch := first | omega | assumption | rfl | (simp only [vcS] <;> omega) | fail) only [↓ptV_l, ↓vcA, vcB, ↓vcD, vcE, ↓reduceIte, Nat.reduceEqDiff, Nat.reduceAdd, Nat.reduceMul, Nat.reduceLeDiff, Int.reduceLE, Int.reduceLT, Int.reduceEq, Int.reduceToNat, Int.reduceAdd, Int.reduceSub, Int.reduceMul, Int.reduceNeg, reduceCtorEq, Option.bind_some, Option.map_some, List.length_cons, List.length_nil, vcM, List.getElem?_toArray, List.getElem?_cons_zero, List.getElem?_cons_succ, hi2, hcell, Int.toNat_natCast, Nat.mul_one, l32S_is, hx0, g1, u1, hb2, bin_sadd, hfit, happ])
        (refine W_at c11_ok ?_; refine ⟨_, rfl, ?_⟩; simp (disch := first | omega | assumption | rfl | (simp only [vcS] <;> omega) | fail) only [↓ptV_l, ↓vcA, vcB, ↓vcD, vcE, ↓reduceIte, Nat.reduceEqDiff, Nat.reduceAdd, Nat.reduceMul, Nat.reduceLeDiff, Int.reduceLE, Int.reduceLT, Int.reduceEq, Int.reduceToNat, Int.reduceAdd, Int.reduceSub, Int.reduceMul, Int.reduceNeg, reduceCtorEq, Option.bind_some, Option.map_some, List.length_cons, List.length_nil, vcM, List.getElem?_toArray, List.getElem?_cons_zero, List.getElem?_cons_succ, hwi])
        (refine W_at c11_ok ?_; refine ⟨_, rfl, ?_⟩; simp (disch := first | omega | assumption | rfl | (simp only [vcS] <;> omega) | fail) only [↓ptV_l, ↓vcA, vcB, ↓vcD, vcE, ↓reduceIte, Nat.reduceEqDiff, Nat.reduceAdd, Nat.reduceMul, Nat.reduceLeDiff, Int.reduceLE, Int.reduceLT, Int.reduceEq, Int.reduceToNat, Int.reduceAdd, Int.reduceSub, Int.reduceMul, Int.reduceNeg, reduceCtorEq, Option.bind_some, Option.map_some, List.length_cons, List.length_nil, vcM, List.getElem?_toArray, List.getElem?_cons_zero, List.getElem?_cons_succ])
        exact hih _ _ (by omega) (hE.ext hN.ext) hk (by rw [decide_eq_false hx]; rfl) (byt_take hdb _)
  -- the part for people
  have L1 : ∀ (k i : Nat) (tl : Env), k + i = h.length → okH (h.take i) = true →
      W Tryd.prog (Ret fun x w' => x = bechR (bechE h d m) ∧ Ext w w') 11 32 ((0, .string (strOf h)) :: (1, v) :: (2, .bool m) :: (8, .int .i64 (i : Int)) :: tl) w := by
    intro k
    induction k with
    | zero =>
      intro i tl hi hk
      have hil : ¬ ((i : Int) < (h.length : Int)) := by omega
      rw [List.take_of_length_le (by omega)] at hk
      have hfit := concat_fits (a := h) (b := [49]) (by simp; omega)
      have e49 : (⟨#[49]⟩ : ByteArray) = strOf [49] := by decide +kernel
      have happ := str_app h [49]
      (refine W_at c11_ok ?_; refine ⟨_, rfl, ?_⟩; simp (disch := first | omega | assumption | rfl | (simp only [vcS] <;> omega) | fail) only [↓ptV_l, ↓vcA, vcB, ↓vcD, vcE, ↓reduceIte, Nat.reduceEqDiff, Nat.reduceAdd, Nat.reduceMul, Nat.reduceLeDiff, Int.reduceLE, Int.reduceLT, Int.reduceEq, Int.reduceToNat, Int.reduceAdd, Int.reduceSub, Int.reduceMul, Int.reduceNeg, reduceCtorEq, Option.bind_some, Option.map_some, List.length_cons, List.length_nil, vcM, List.getElem?_toArray, List.getElem?_cons_zero, List.getElem?_cons_succ, hsz, hil])
      (refine W_at c11_ok ?_; refine ⟨_, rfl, ?_⟩; simp (disch := first | omega | assumption | rfl | (simp only [vcS] <;> omega) | fail) only [↓ptV_l, ↓vcA, vcB, ↓vcD, vcE, ↓reduceIte, Nat.reduceEqDiff, Nat.reduceAdd, Nat.reduceMul, Nat.reduceLeDiff, Int.reduceLE, Int.reduceLT, Int.reduceEq, Int.reduceToNat, Int.reduceAdd, Int.reduceSub, Int.reduceMul, Int.reduceNeg, reduceCtorEq, Option.bind_some, Option.map_some, List.length_cons, List.length_nil, vcM, List.getElem?_toArray, List.getElem?_cons_zero, List.getElem?_cons_succ])
      (refine W_at c11_ok ?_; refine ⟨_, rfl, ?_⟩; simp (disch := first | omega | assumption | rfl | (simp only [vcS] <;> omega) | fail) only [↓ptV_l, ↓vcA, vcB, ↓vcD, vcE, ↓reduceIte, Nat.reduceEqDiff, Nat.reduceAdd, Nat.reduceMul, Nat.reduceLeDiff, Int.reduceLE, Int.reduceLT, Int.reduceEq, Int.reduceToNat, Int.reduceAdd, Int.reduceSub, Int.reduceMul, Int.reduceNeg, reduceCtorEq, Option.bind_some, Option.map_some, List.length_cons, List.length_nil, vcM, List.getElem?_toArray, List.getElem?_cons_zero, List.getElem?_cons_succ, e49, bin_sadd, hfit, happ])
      (refine W_at c11_ok ?_; refine ⟨_, rfl, ?_⟩; simp (disch := first | omega | assumption | rfl | (simp only [vcS] <;> omega) | fail) only [↓ptV_l, ↓vcA, vcB, ↓vcD, vcE, ↓reduceIte, Nat.reduceEqDiff, Nat.reduceAdd, Nat.reduceMul, Nat.reduceLeDiff, Int.reduceLE, Int.reduceLT, Int.reduceEq, Int.reduceToNat, Int.reduceAdd, Int.reduceSub, Int.reduceMul, Int.reduceNeg, reduceCtorEq, Option.bind_some, Option.map_some, List.length_cons, List.length_nil, vcM, List.getElem?_toArray, List.getElem?_cons_zero, List.getElem?_cons_succ])
      have := L2 d.length 0 w [] (by omega) (Keep.refl _ w) hk rfl (fun x hx => by simp at hx)
      rw [List.take_zero, List.map_nil, List.append_nil] at this
      exact this
    | succ k ih =>
      intro i tl hi hk
      have hil : (i : Int) < (h.length : Int) := by omega
      have h0i : 0 ≤ (i : Int) := by omega
      have hwi : IntKind.i64.wrap ((i : Int) + 1) = ((i + 1 : Nat) : Int) := wrap_i64 (by omega) (by omega)
      have g1 := str_get (bs := h) (i := i) (by omega)
      have u1 := u8i (hb h[i] (List.getElem_mem _))
      have hxm : h[i] ∈ h := List.getElem_mem _
      have hih := ih (i + 1)
      rw [okH_take (by omega), hk] at hih
      have hout : okc h[i] = false → ∀ tl, W Tryd.prog (Ret fun x w' => x = bechR (bechE h d m) ∧ Ext w w') 11 29 ((0, .string (strOf h)) :: (1, v) :: (2, .bool m) :: (8, .int .i64 (i : Int)) :: (54, .bool true) :: tl) w := fun hc tl => by
        rw [bad (P := okc h[i] = false) (fun hc => .inr (.inl (by
          cases ho : okH h with
          | false => rfl
          | true => rw [okH_all ho _ hxm] at hc; cases hc))) hc]
        (refine W_at c11_ok ?_; refine ⟨_, rfl, ?_⟩; simp (disch := first | omega | assumption | rfl | (simp only [vcS] <;> omega) | fail) only [↓ptV_l, ↓vcA, vcB, ↓vcD, vcE, ↓reduceIte, Nat.reduceEqDiff, Nat.reduceAdd, Nat.reduceMul, Nat.reduceLeDiff, Int.reduceLE, Int.reduceLT, Int.reduceEq, Int.reduceToNat, Int.reduceAdd, Int.reduceSub, Int.reduceMul, Int.reduceNeg, reduceCtorEq, Option.bind_some, Option.map_some, List.length_cons, List.length_nil, vcM, List.getElem?_toArray, List.getElem?_cons_zero, List.getElem?_cons_succ])
        (refine W_at c11_ok ?_; refine ⟨_, rfl, ?_⟩; simp (disch := first | omega | assumption | rfl | (simp only [vcS] <;> omega) | fail) only [↓ptV_l, ↓vcA, vcB, ↓vcD, vcE, ↓reduceIte, Nat.reduceEqDiff, Nat.reduceAdd, Nat.reduceMul, Nat.reduceLeDiff, Int.reduceLE, Int.reduceLT, Int.reduceEq, Int.reduceToNat, Int.reduceAdd, Int.reduceSub, Int.reduceMul, Int.reduceNeg, reduceCtorEq, Option.bind_some, Option.map_some, List.length_cons, List.length_nil, vcM, List.getElem?_toArray, List.getElem?_cons_zero, List.getElem?_cons_succ])
        (refine W_at c11_ok ?_; refine ⟨_, rfl, ?_⟩; simp (disch := first | omega | assumption | rfl | (simp only [vcS] <;> omega) | fail) only [↓ptV_l, ↓vcA, vcB, ↓vcD, vcE, ↓reduceIte, Nat.reduceEqDiff, Nat.reduceAdd, Nat.reduceMul, Nat.reduceLeDiff, Int.reduceLE, Int.reduceLT, Int.reduceEq, Int.reduceToNat, Int.reduceAdd, Int.reduceSub, Int.reduceMul, Int.reduceNeg, reduceCtorEq, Option.bind_some, Option.map_some, List.length_cons, List.length_nil, vcM, List.getElem?_toArray, List.getElem?_cons_zero, List.getElem?_cons_succ, Ret_returned])
        first | exact Keep.refl _ w | exact ⟨rfl, Keep.refl _ w⟩
      have hgo : okc h[i] = true → ∀ tl, W Tryd.prog (Ret fun x w' => x = bechR (bechE h d m) ∧ Ext w w') 11 29 ((0, .string (strOf h)) :: (1, v) :: (2, .bool m) :: (8, .int .i64 (i : Int)) :: (54, .bool false) :: tl) w := fun hc tl => by
        (refine W_at c11_ok ?_; refine ⟨_, rfl, ?_⟩; simp (disch := first | omega | assumption | rfl | (simp only [vcS] <;> omega) | fail) only [↓ptV_l, ↓vcA, vcB, ↓vcD, vcE, ↓reduceIte, Nat.reduceEqDiff, Nat.reduceAdd, Nat.reduceMul, Nat.reduceLeDiff, Int.reduceLE, Int.reduceLT, Int.reduceEq, Int.reduceToNat, Int.reduceAdd, Int.reduceSub, Int.reduceMul, Int.reduceNeg, reduceCtorEq, Option.bind_some, Option.map_some, List.length_cons, List.length_nil, vcM, List.getElem?_toArray, List.getElem?_cons_zero, List.getElem?_cons_succ])
        (refine W_at c11_ok ?_; refine ⟨_, rfl, ?_⟩; simp (disch := first | omega | assumption | rfl | (simp only [vcS] <;> omega) | fail) only [↓ptV_l, ↓vcA, vcB, ↓vcD, vcE, ↓reduceIte, Nat.reduceEqDiff, Nat.reduceAdd, Nat.reduceMul, Nat.reduceLeDiff, Int.reduceLE, Int.reduceLT, Int.reduceEq, Int.reduceToNat, Int.reduceAdd, Int.reduceSub, Int.reduceMul, Int.reduceNeg, reduceCtorEq, Option.bind_some, Option.map_some, List.length_cons, List.length_nil, vcM, List.getElem?_toArray, List.getElem?_cons_zero, List.getElem?_cons_succ, hwi])
        (refine W_at c11_ok ?_; refine ⟨_, rfl, ?_⟩; simp (disch := first | omega | assumption | rfl | (simp only [vcS] <;> omega) | fail) only [↓ptV_l, ↓vcA, vcB, ↓vcD, vcE, ↓reduceIte, Nat.reduceEqDiff, Nat.reduceAdd, Nat.reduceMul, Nat.reduceLeDiff, Int.reduceLE, Int.reduceLT, Int.reduceEq, Int.reduceToNat, Int.reduceAdd, Int.reduceSub, Int.reduceMul, Int.reduceNeg, reduceCtorEq, Option.bind_some, Option.map_some, List.length_cons, List.length_nil, vcM, List.getElem?_toArray, List.getElem?_cons_zero, List.getElem?_cons_succ])
        exact hih _ (by omega) (by rw [hc]; rfl)
      clear hih hxm
      generalize h[i] = x at *
      (refine W_at c11_ok ?_; refine ⟨_, rfl, ?_⟩; simp (disch := first | omega | assumption | rfl | (simp only [vcS] <;> omega) | fail) only [↓ptV_l, ↓vcA, vcB, ↓vcD, vcE, ↓reduceIte, Nat.reduceEqDiff, Nat.reduceAdd, Nat.reduceMul, Nat.reduceLeDiff, Int.reduceLE, Int.reduceLT, Int.reduceEq, Int.reduceToNat, Int.reduceAdd, Int.reduceSub, Int.reduceMul, Int.reduceNeg, reduceCtorEq, Option.bind_some, Option.map_some, List.length_cons, List.length_nil, vcM, List.getElem?_toArray, List.getElem?_cons_zero, List.getElem?_cons_succ, hsz, hil])
      (refine W_at c11_ok ?_; refine ⟨_, rfl, ?_⟩; simp (disch := first | omega | assumption | rfl | (simp only [vcS] <;> omega) | fail) only [↓ptV_l, ↓vcA, vcB, ↓vcD, vcE, ↓reduceIte, Nat.reduceEqDiff, Nat.reduceAdd, Nat.reduceMul, Nat.reduceLeDiff, Int.reduceLE, Int.reduceLT, Int.reduceEq, Int.reduceToNat, Int.reduceAdd, Int.reduceSub, Int.reduceMul, Int.reduceNeg, reduceCtorEq, Option.bind_some, Option.map_some, List.length_cons, List.length_nil, vcM, List.getElem?_toArray, List.getElem?_cons_zero, List.getElem?_cons_succ])
      by_cases x1 : x < 33
      · (refine W_at c11_ok ?_; refine ⟨_, rfl, ?_⟩; simp (disch := first | omega | assumption | rfl | (simp only [vcS] <;> omega) | fail) only [↓ptV_l, ↓vcA, vcB, ↓vcD, vcE, ↓reduceIte, Nat.reduceEqDiff, Nat.reduceAdd, Nat.reduceMul, Nat.reduceLeDiff, Int.reduceLE, Int.reduceLT, Int.reduceEq, Int.reduceToNat, Int.reduceAdd, Int.reduceSub, Int.reduceMul, Int.reduceNeg, reduceCtorEq, Option.bind_some, Option.map_some, List.length_cons, List.length_nil, vcM, List.getElem?_toArray, List.getElem?_cons_zero, List.getElem?_cons_succ, h0i, Int.toNat_natCast, g1, u1, x1])
        exact hout (by simp [okc]; omega) _
      by_cases x2 : 126 < x
      · (refine W_at c11_ok ?_; refine ⟨_, rfl, ?_⟩; simp (disch := first | omega | assumption | rfl | (simp only [vcS] <;> omega) | fail) only [↓ptV_l, ↓vcA, vcB, ↓vcD, vcE, ↓reduceIte, Nat.reduceEqDiff, Nat.reduceAdd, Nat.reduceMul, Nat.reduceLeDiff, Int.reduceLE, Int.reduceLT, Int.reduceEq, Int.reduceToNat, Int.reduceAdd, Int.reduceSub, Int.reduceMul, Int.reduceNeg, reduceCtorEq, Option.bind_some, Option.map_some, List.length_cons, List.length_nil, vcM, List.getElem?_toArray, List.getElem?_cons_zero, List.getElem?_cons_succ, h0i, Int.toNat_natCast, g1, u1, x1, x2])
        exact hout (by simp [okc]; omega) _
      by_cases x3 : 65 ≤ x
      · by_cases x4 : x ≤ 90
        · (refine W_at c11_ok ?_; refine ⟨_, rfl, ?_⟩; simp (disch := first | omega | assumption | rfl | (simp only [vcS] <;> omega) | fail) only [↓ptV_l, ↓vcA, vcB, ↓vcD, vcE, ↓reduceIte, Nat.reduceEqDiff, Nat.reduceAdd, Nat.reduceMul, Nat.reduceLeDiff, Int.reduceLE, Int.reduceLT, Int.reduceEq, Int.reduceToNat, Int.reduceAdd, Int.reduceSub, Int.reduceMul, Int.reduceNeg, reduceCtorEq, Option.bind_some, Option.map_some, List.length_cons, List.length_nil, vcM, List.getElem?_toArray, List.getElem?_cons_zero, List.getElem?_cons_succ, h0i, Int.toNat_natCast, g1, u1, x1, x2, x3, x4])
          exact hout (by simp [okc]; omega) _
        · (refine W_at c11_ok ?_; refine ⟨_, rfl, ?_⟩; simp (disch := first | omega | assumption | rfl | (simp only [vcS] <;> omega) | fail) only [↓ptV_l, ↓vcA, vcB, ↓vcD, vcE, ↓reduceIte, Nat.reduceEqDiff, Nat.reduceAdd, Nat.reduceMul, Nat.reduceLeDiff, Int.reduceLE, Int.reduceLT, Int.reduceEq, Int.reduceToNat, Int.reduceAdd, Int.reduceSub, Int.reduceMul, Int.reduceNeg, reduceCtorEq, Option.bind_some, Option.map_some, List.length_cons, List.length_nil, vcM, List.getElem?_toArray, List.getElem?_cons_zero, List.getElem?_cons_succ, h0i, Int.toNat_natCast, g1, u1, x1, x2, x3, x4])
          exact hgo (by simp [okc]; omega) _
      · (refine W_at c11_ok ?_; refine ⟨_, rfl, ?_⟩; simp (disch := first | omega | assumption | rfl | (simp only [vcS] <;> omega) | fail) only [↓ptV_l, ↓vcA, vcB, ↓vcD, vcE, ↓reduceIte, Nat.reduceEqDiff, Nat.reduceAdd, Nat.reduceMul, Nat.reduceLeDiff, Int.reduceLE, Int.reduceLT, Int.reduceEq, Int.reduceToNat, Int.reduceAdd, Int.reduceSub, Int.reduceMul, Int.reduceNeg, reduceCtorEq, Option.bind_some, Option.map_some, List.length_cons, List.length_nil, vcM, List.getElem?_toArray, List.getElem?_cons_zero, List.getElem?_cons_succ, h0i, Int.toNat_natCast, g1, u1, x1, x2, x3])
        exact hgo (by simp [okc]; omega) _
  (refine W_at c11_ok ?_; refine ⟨_, rfl, ?_⟩; simp (disch := first | omega | assumption | rfl | (simp only [vcS] <;> omega) | fail) only [↓ptV_l, ↓vcA, vcB, ↓vcD, vcE, ↓reduceIte, Nat.reduceEqDiff, Nat.reduceAdd, Nat.reduceMul, Nat.reduceLeDiff, Int.reduceLE, Int.reduceLT, Int.reduceEq, Int.reduceToNat, Int.reduceAdd, Int.reduceSub, Int.reduceMul, Int.reduceNeg, reduceCtorEq, Option.bind_some, Option.map_some, List.length_cons, List.length_nil, vcM, List.getElem?_toArray, List.getElem?_cons_zero, List.getElem?_cons_succ, hnil])
  (refine W_at c11_ok ?_; refine ⟨_, rfl, ?_⟩; simp (disch := first | omega | assumption | rfl | (simp only [vcS] <;> omega) | fail) only [↓ptV_l, ↓vcA, vcB, ↓vcD, vcE, ↓reduceIte, Nat.reduceEqDiff, Nat.reduceAdd, Nat.reduceMul, Nat.reduceLeDiff, Int.reduceLE, Int.reduceLT, Int.reduceEq, Int.reduceToNat, Int.reduceAdd, Int.reduceSub, Int.reduceMul, Int.reduceNeg, reduceCtorEq, Option.bind_some, Option.map_some, List.length_cons, List.length_nil, vcM, List.getElem?_toArray, List.getElem?_cons_zero, List.getElem?_cons_succ])
  (refine W_at c11_ok ?_; refine ⟨_, rfl, ?_⟩; simp (disch := first | omega | assumption | rfl | (simp only [vcS] <;> omega) | fail) only [↓ptV_l, ↓vcA, vcB, ↓vcD, vcE, ↓reduceIte, Nat.reduceEqDiff, Nat.reduceAdd, Nat.reduceMul, Nat.reduceLeDiff, Int.reduceLE, Int.reduceLT, Int.reduceEq, Int.reduceToNat, Int.reduceAdd, Int.reduceSub, Int.reduceMul, Int.reduceNeg, reduceCtorEq, Option.bind_some, Option.map_some, List.length_cons, List.length_nil, vcM, List.getElem?_toArray, List.getElem?_cons_zero, List.getElem?_cons_succ])
  exact L1 h.length 0 _ (by omega) rfl
end Go.Proofs
namespace Go.Proofs
open Go.Vc
set_option maxRecDepth 10000

theorem bechE_b {h d : List Int} {m : Bool} (hb : byt h) (hd : byt d) : byt (bechE h d m).1 ∧ (bechE h d m).1.length ≤ 90 := by
  by_cases he : (bechE h d m).2 = 0
  · obtain ⟨hf, e⟩ := bechE_fit hb hd he
    rw [e]
    have h5 := five_app hf.five (sumL_five h d m)
    have hl := hf.len
    refine ⟨byt_app hb fun x hx => ?_, ?_⟩
    · rcases List.mem_cons.1 hx with rfl | hx
      · omega
      · obtain ⟨z, hz, rfl⟩ := List.mem_map.1 hx
        have := h5 z hz
        exact l32F_b (by omega)
    · simp [bechF, sumL_len]; omega
  · have e : (bechE h d m).1 = [] := by
      unfold bechE at he ⊢
      split
      · rfl
      · split
        · rfl
        · rename_i h1 h2
          rw [if_neg h1, if_neg h2] at he
          exact absurd rfl he
    rw [e]; exact ⟨byt_nil, by simp⟩
theorem bech_tail (w0 w : World) (h xs : List Int) (m : Bool) (x : Value) (tl : Env) (hE : Ext w0 w) (hb : byt h) (hl : h.length ≤ 100) (hR : Rd w x xs) (hxb : byt xs) (hxl : xs.length ≤ 100) :
    W Tryd.prog (Ret fun u w' => u = .bool true ∧ Ext w0 w') 3 14 ((0, .string (strOf h)) :: (1, x) :: (2, .bool m) :: tl) w := by
  have hml : maxLen = 9223372036854775807 := rfl
  (refine W_at c3_ok ?_; refine ⟨_, rfl, ?_⟩; simp (disch := first | omega | assumption | rfl | (simp only [vcS] <;> omega) | fail) only [↓vcL1, ptS2_eq, ↓vcA, vcB, ↓vcD, vcE, ↓reduceIte, Nat.reduceEqDiff, Nat.reduceAdd, Nat.reduceMul, Nat.reduceLeDiff, Int.reduceLE, Int.reduceLT, Int.reduceEq, Int.reduceToNat, Int.reduceAdd, Int.reduceSub, Int.reduceMul, Int.reduceNeg, reduceCtorEq, Option.bind_some, Option.map_some, List.length_cons, List.length_nil, vcM, List.getElem?_toArray, List.getElem?_cons_zero, List.getElem?_cons_succ])
  refine callV_ret (spare_ok w x xs hR hxb (by omega)) ?_
  rintro _ w2 ⟨g0, rfl, hA, hE2, hg0⟩
  simp (disch := first | omega | assumption | rfl | (simp only [vcS] <;> omega) | fail) only [↓vcL2, ptS1_eq, ↓vcA, vcB, ↓vcD, vcE, ↓reduceIte, Nat.reduceEqDiff, Nat.reduceAdd, Nat.reduceMul, Nat.reduceLeDiff, Int.reduceLE, Int.reduceLT, Int.reduceEq, Int.reduceToNat, Int.reduceAdd, Int.reduceSub, Int.reduceMul, Int.reduceNeg, reduceCtorEq, Option.bind_some, Option.map_some, List.length_cons, List.length_nil, vcM, List.getElem?_toArray, List.getElem?_cons_zero, List.getElem?_cons_succ]
  have hR2 := hR.ext hE2
  (refine W_at c3_ok ?_; refine ⟨_, rfl, ?_⟩; simp (disch := first | omega | assumption | rfl | (simp only [vcS] <;> omega) | fail) only [↓vcL1, ptS2_eq, ↓vcA, vcB, ↓vcD, vcE, ↓reduceIte, Nat.reduceEqDiff, Nat.reduceAdd, Nat.reduceMul, Nat.reduceLeDiff, Int.reduceLE, Int.reduceLT, Int.reduceEq, Int.reduceToNat, Int.reduceAdd, Int.reduceSub, Int.reduceMul, Int.reduceNeg, reduceCtorEq, Option.bind_some, Option.map_some, List.length_cons, List.length_nil, vcM, List.getElem?_toArray, List.getElem?_cons_zero, List.getElem?_cons_succ])
  refine callV_ret (bech32_ok w2 h xs m _ hb (by omega) (in_rd hA) hxb (by omega)) ?_
  rintro _ w3 ⟨rfl, hE3⟩
  unfold bechR
  simp (disch := first | omega | assumption | rfl | (simp only [vcS] <;> omega) | fail) only [↓vcL2, ptS1_eq, ↓vcA, vcB, ↓vcD, vcE, ↓reduceIte, Nat.reduceEqDiff, Nat.reduceAdd, Nat.reduceMul, Nat.reduceLeDiff, Int.reduceLE, Int.reduceLT, Int.reduceEq, Int.reduceToNat, Int.reduceAdd, Int.reduceSub, Int.reduceMul, Int.reduceNeg, reduceCtorEq, Option.bind_some, Option.map_some, List.length_cons, List.length_nil, vcM, List.getElem?_toArray, List.getElem?_cons_zero, List.getElem?_cons_succ]
  have hR3 := hR2.ext hE3
  (refine W_at c3_ok ?_; refine ⟨_, rfl, ?_⟩; simp (disch := first | omega | assumption | rfl | (simp only [vcS] <;> omega) | fail) only [↓vcL1, ptS2_eq, ↓vcA, vcB, ↓vcD, vcE, ↓reduceIte, Nat.reduceEqDiff, Nat.reduceAdd, Nat.reduceMul, Nat.reduceLeDiff, Int.reduceLE, Int.reduceLT, Int.reduceEq, Int.reduceToNat, Int.reduceAdd, Int.reduceSub, Int.reduceMul, Int.reduceNeg, reduceCtorEq, Option.bind_some, Option.map_some, List.length_cons, List.length_nil, vcM, List.getElem?_toArray, List.getElem?_cons_zero, List.getElem?_cons_succ])
  refine callV_ret (rbech_ok w3 h xs m x hb (by omega) hR3 hxb (by omega)) ?_
  rintro _ w4 ⟨rfl, hE4⟩
  unfold bechR
  simp (disch := first | omega | assumption | rfl | (simp only [vcS] <;> omega) | fail) only [↓vcL2, ptS1_eq, ↓vcA, vcB, ↓vcD, vcE, ↓reduceIte, Nat.reduceEqDiff, Nat.reduceAdd, Nat.reduceMul, Nat.reduceLeDiff, Int.reduceLE, Int.reduceLT, Int.reduceEq, Int.reduceToNat, Int.reduceAdd, Int.reduceSub, Int.reduceMul, Int.reduceNeg, reduceCtorEq, Option.bind_some, Option.map_some, List.length_cons, List.length_nil, vcM, List.getElem?_toArray, List.getElem?_cons_zero, List.getElem?_cons_succ]
  have hR4 := hR3.ext hE4
  obtain ⟨hSb, hSl⟩ := bechE_b (m := m) hb hxb
  have ff1 : decide (strOf (bechE h xs m).1 = strOf (bechE h xs m).1) = true := decide_eq_true rfl
  have ff2 : decide ((bechE h xs m).2 = (bechE h xs m).2) = true := decide_eq_true rfl
  (refine W_at c3_ok ?_; refine ⟨_, rfl, ?_⟩; simp (disch := first | omega | assumption | rfl | (simp only [vcS] <;> omega) | fail) only [↓vcL1, ptS2_eq, ↓vcA, vcB, ↓vcD, vcE, ↓reduceIte, Nat.reduceEqDiff, Nat.reduceAdd, Nat.reduceMul, Nat.reduceLeDiff, Int.reduceLE, Int.reduceLT, Int.reduceEq, Int.reduceToNat, Int.reduceAdd, Int.reduceSub, Int.reduceMul, Int.reduceNeg, reduceCtorEq, Option.bind_some, Option.map_some, List.length_cons, List.length_nil, vcM, List.getElem?_toArray, List.getElem?_cons_zero, List.getElem?_cons_succ, bin_sneq, ff1, ff2])
  refine callV_ret (kept_ok w4 _ x xs ((hA.ext hE3).ext hE4).rd hR4 (by omega)) ?_
  rintro _ w5 ⟨rfl, hE5⟩
  have hE6 : Ext w0 w5 := (((hE.ext hE2).ext hE3).ext hE4).ext hE5
  have hR5 := hR4.ext hE5
  first | (simp (disch := first | omega | assumption | rfl | (simp only [vcS] <;> omega) | fail) only [↓vcL1, ptS2_eq, ↓vcA, vcB, ↓vcD, vcE, ↓reduceIte, Nat.reduceEqDiff, Nat.reduceAdd, Nat.reduceMul, Nat.reduceLeDiff, Int.reduceLE, Int.reduceLT, Int.reduceEq, Int.reduceToNat, Int.reduceAdd, Int.reduceSub, Int.reduceMul, Int.reduceNeg, reduceCtorEq, Option.bind_some, Option.map_some, List.length_cons, List.length_nil, vcM, List.getElem?_toArray, List.getElem?_cons_zero, List.getElem?_cons_succ]) | (simp (disch := first | omega | assumption | rfl | (simp only [vcS] <;> omega) | fail) only [↓vcL2, ptS1_eq, ↓vcA, vcB, ↓vcD, vcE, ↓reduceIte, Nat.reduceEqDiff, Nat.reduceAdd, Nat.reduceMul, Nat.reduceLeDiff, Int.reduceLE, Int.reduceLT, Int.reduceEq, Int.reduceToNat, Int.reduceAdd, Int.reduceSub, Int.reduceMul, Int.reduceNeg, reduceCtorEq, Option.bind_some, Option.map_some, List.length_cons, List.length_nil, vcM, List.getElem?_toArray, List.getElem?_cons_zero, List.getElem?_cons_succ])
  (refine W_at c3_ok ?_; refine ⟨_, rfl, ?_⟩; simp (disch := first | omega | assumption | rfl | (simp only [vcS] <;> omega) | fail) only [↓ptV_l, ↓vcA, vcB, ↓vcD, vcE, ↓reduceIte, Nat.reduceEqDiff, Nat.reduceAdd, Nat.reduceMul, Nat.reduceLeDiff, Int.reduceLE, Int.reduceLT, Int.reduceEq, Int.reduceToNat, Int.reduceAdd, Int.reduceSub, Int.reduceMul, Int.reduceNeg, reduceCtorEq, Option.bind_some, Option.map_some, List.length_cons, List.length_nil, vcM, List.getElem?_toArray, List.getElem?_cons_zero, List.getElem?_cons_succ])
  by_cases he : ¬ (bechE h xs m).2 = 0
  · (refine W_at c3_ok ?_; refine ⟨_, rfl, ?_⟩; simp (disch := first | omega | assumption | rfl | (simp only [vcS] <;> omega) | fail) only [↓ptV_l, ↓vcA, vcB, ↓vcD, vcE, ↓reduceIte, Nat.reduceEqDiff, Nat.reduceAdd, Nat.reduceMul, Nat.reduceLeDiff, Int.reduceLE, Int.reduceLT, Int.reduceEq, Int.reduceToNat, Int.reduceAdd, Int.reduceSub, Int.reduceMul, Int.reduceNeg, reduceCtorEq, Option.bind_some, Option.map_some, List.length_cons, List.length_nil, vcM, List.getElem?_toArray, List.getElem?_cons_zero, List.getElem?_cons_succ, he])
    (refine W_at c3_ok ?_; refine ⟨_, rfl, ?_⟩; simp (disch := first | omega | assumption | rfl | (simp only [vcS] <;> omega) | fail) only [↓ptV_l, ↓vcA, vcB, ↓vcD, vcE, ↓reduceIte, Nat.reduceEqDiff, Nat.reduceAdd, Nat.reduceMul, Nat.reduceLeDiff, Int.reduceLE, Int.reduceLT, Int.reduceEq, Int.reduceToNat, Int.reduceAdd, Int.reduceSub, Int.reduceMul, Int.reduceNeg, reduceCtorEq, Option.bind_some, Option.map_some, List.length_cons, List.length_nil, vcM, List.getElem?_toArray, List.getElem?_cons_zero, List.getElem?_cons_succ])
    (refine W_at c3_ok ?_; refine ⟨_, rfl, ?_⟩; simp (disch := first | omega | assumption | rfl | (simp only [vcS] <;> omega) | fail) only [↓ptV_l, ↓vcA, vcB, ↓vcD, vcE, ↓reduceIte, Nat.reduceEqDiff, Nat.reduceAdd, Nat.reduceMul, Nat.reduceLeDiff, Int.reduceLE, Int.reduceLT, Int.reduceEq, Int.reduceToNat, Int.reduceAdd, Int.reduceSub, Int.reduceMul, Int.reduceNeg, reduceCtorEq, Option.bind_some, Option.map_some, List.length_cons, List.length_nil, vcM, List.getElem?_toArray, List.getElem?_cons_zero, List.getElem?_cons_succ])
    (refine W_at c3_ok ?_; refine ⟨_, rfl, ?_⟩; simp (disch := first | omega | assumption | rfl | (simp only [vcS] <;> omega) | fail) only [↓ptV_l, ↓vcA, vcB, ↓vcD, vcE, ↓reduceIte, Nat.reduceEqDiff, Nat.reduceAdd, Nat.reduceMul, Nat.reduceLeDiff, Int.reduceLE, Int.reduceLT, Int.reduceEq, Int.reduceToNat, Int.reduceAdd, Int.reduceSub, Int.reduceMul, Int.reduceNeg, reduceCtorEq, Option.bind_some, Option.map_some, List.length_cons, List.length_nil, vcM, List.getElem?_toArray, List.getElem?_cons_zero, List.getElem?_cons_succ, Ret_returned])
    first | exact hE6 | exact ⟨rfl, hE6⟩
  replace he := Decidable.not_not.1 he
  obtain ⟨hf, hF⟩ := bechE_fit hb hxb he
  have hback := bech_back (m := m) hf
  rw [hF] at hSb hSl ⊢
  simp only at hSb hSl ⊢
  (refine W_at c3_ok ?_; refine ⟨_, rfl, ?_⟩; simp (disch := first | omega | assumption | rfl | (simp only [vcS] <;> omega) | fail) only [↓ptV_l, ↓vcA, vcB, ↓vcD, vcE, ↓reduceIte, Nat.reduceEqDiff, Nat.reduceAdd, Nat.reduceMul, Nat.reduceLeDiff, Int.reduceLE, Int.reduceLT, Int.reduceEq, Int.reduceToNat, Int.reduceAdd, Int.reduceSub, Int.reduceMul, Int.reduceNeg, reduceCtorEq, Option.bind_some, Option.map_some, List.length_cons, List.length_nil, vcM, List.getElem?_toArray, List.getElem?_cons_zero, List.getElem?_cons_succ])
  (refine W_at c3_ok ?_; refine ⟨_, rfl, ?_⟩; simp (disch := first | omega | assumption | rfl | (simp only [vcS] <;> omega) | fail) only [↓ptV_l, ↓vcA, vcB, ↓vcD, vcE, ↓reduceIte, Nat.reduceEqDiff, Nat.reduceAdd, Nat.reduceMul, Nat.reduceLeDiff, Int.reduceLE, Int.reduceLT, Int.reduceEq, Int.reduceToNat, Int.reduceAdd, Int.reduceSub, Int.reduceMul, Int.reduceNeg, reduceCtorEq, Option.bind_some, Option.map_some, List.length_cons, List.length_nil, vcM, List.getElem?_toArray, List.getElem?_cons_zero, List.getElem?_cons_succ])
  (refine W_at c3_ok ?_; refine ⟨_, rfl, ?_⟩; simp (disch := first | omega | assumption | rfl | (simp only [vcS] <;> omega) | fail) only [↓vcL1, ptS2_eq, ↓vcA, vcB, ↓vcD, vcE, ↓reduceIte, Nat.reduceEqDiff, Nat.reduceAdd, Nat.reduceMul, Nat.reduceLeDiff, Int.reduceLE, Int.reduceLT, Int.reduceEq, Int.reduceToNat, Int.reduceAdd, Int.reduceSub, Int.reduceMul, Int.reduceNeg, reduceCtorEq, Option.bind_some, Option.map_some, List.length_cons, List.length_nil, vcM, List.getElem?_toArray, List.getElem?_cons_zero, List.getElem?_cons_succ])
  refine callV_ret (from_ok w5 (bechF h xs m) hSb (by omega)) ?_
  rw [hback]
  rintro _ w7 ⟨y, rfl, hy, hE7⟩
  have er : readR ⟨h, xs, m, 0⟩ y = .tuple #[.string (strOf h), y, .bool m, .int .i64 0] := rfl
  rw [er]
  simp (disch := first | omega | assumption | rfl | (simp only [vcS] <;> omega) | fail) only [↓vcL2, ptS1_eq, ↓vcA, vcB, ↓vcD, vcE, ↓reduceIte, Nat.reduceEqDiff, Nat.reduceAdd, Nat.reduceMul, Nat.reduceLeDiff, Int.reduceLE, Int.reduceLT, Int.reduceEq, Int.reduceToNat, Int.reduceAdd, Int.reduceSub, Int.reduceMul, Int.reduceNeg, reduceCtorEq, Option.bind_some, Option.map_some, List.length_cons, List.length_nil, vcM, List.getElem?_toArray, List.getElem?_cons_zero, List.getElem?_cons_succ]
  have hE8 := hE6.ext hE7
  have hR7 := hR5.ext hE7
  have hy : Rd w7 y xs := hy
  have ff3 : decide (strOf h = strOf h) = true := decide_eq_true rfl
  (refine W_at c3_ok ?_; refine ⟨_, rfl, ?_⟩; simp (disch := first | omega | assumption | rfl | (simp only [vcS] <;> omega) | fail) only [↓vcL1, ptS2_eq, ↓vcA, vcB, ↓vcD, vcE, ↓reduceIte, Nat.reduceEqDiff, Nat.reduceAdd, Nat.reduceMul, Nat.reduceLeDiff, Int.reduceLE, Int.reduceLT, Int.reduceEq, Int.reduceToNat, Int.reduceAdd, Int.reduceSub, Int.reduceMul, Int.reduceNeg, reduceCtorEq, Option.bind_some, Option.map_some, List.length_cons, List.length_nil, vcM, List.getElem?_toArray, List.getElem?_cons_zero, List.getElem?_cons_succ, bin_seql, ff3])
  refine callV_ret (equal_ok w7 y x xs xs hy hR7 hxb hxb) ?_
  rintro _ wq ⟨rfl, hw⟩
  obtain rfl : w7 = wq := hw.symm
  rw [decide_eq_true rfl]
  cases m with
  | true =>
    first | (simp (disch := first | omega | assumption | rfl | (simp only [vcS] <;> omega) | fail) only [↓vcL1, ptS2_eq, ↓vcA, vcB, ↓vcD, vcE, ↓reduceIte, Nat.reduceEqDiff, Nat.reduceAdd, Nat.reduceMul, Nat.reduceLeDiff, Int.reduceLE, Int.reduceLT, Int.reduceEq, Int.reduceToNat, Int.reduceAdd, Int.reduceSub, Int.reduceMul, Int.reduceNeg, reduceCtorEq, Option.bind_some, Option.map_some, List.length_cons, List.length_nil, vcM, List.getElem?_toArray, List.getElem?_cons_zero, List.getElem?_cons_succ]) | (simp (disch := first | omega | assumption | rfl | (simp only [vcS] <;> omega) | fail) only [↓vcL2, ptS1_eq, ↓vcA, vcB, ↓vcD, vcE, ↓reduceIte, Nat.reduceEqDiff, Nat.reduceAdd, Nat.reduceMul, Nat.reduceLeDiff, Int.reduceLE, Int.reduceLT, Int.reduceEq, Int.reduceToNat, Int.reduceAdd, Int.reduceSub, Int.reduceMul, Int.reduceNeg, reduceCtorEq, Option.bind_some, Option.map_some, List.length_cons, List.length_nil, vcM, List.getElem?_toArray, List.getElem?_cons_zero, List.getElem?_cons_succ])
    (refine W_at c3_ok ?_; refine ⟨_, rfl, ?_⟩; simp (disch := first | omega | assumption | rfl | (simp only [vcS] <;> omega) | fail) only [↓ptV_l, ↓vcA, vcB, ↓vcD, vcE, ↓reduceIte, Nat.reduceEqDiff, Nat.reduceAdd, Nat.reduceMul, Nat.reduceLeDiff, Int.reduceLE, Int.reduceLT, Int.reduceEq, Int.reduceToNat, Int.reduceAdd, Int.reduceSub, Int.reduceMul, Int.reduceNeg, reduceCtorEq, Option.bind_some, Option.map_some, List.length_cons, List.length_nil, vcM, List.getElem?_toArray, List.getElem?_cons_zero, List.getElem?_cons_succ, Ret_returned])
    first | exact hE8 | exact ⟨rfl, hE8⟩
  | false =>
    first | (simp (disch := first | omega | assumption | rfl | (simp only [vcS] <;> omega) | fail) only [↓vcL1, ptS2_eq, ↓vcA, vcB, ↓vcD, vcE, ↓reduceIte, Nat.reduceEqDiff, Nat.reduceAdd, Nat.reduceMul, Nat.reduceLeDiff, Int.reduceLE, Int.reduceLT, Int.reduceEq, Int.reduceToNat, Int.reduceAdd, Int.reduceSub, Int.reduceMul, Int.reduceNeg, reduceCtorEq, Option.bind_some, Option.map_some, List.length_cons, List.length_nil, vcM, List.getElem?_toArray, List.getElem?_cons_zero, List.getElem?_cons_succ]) | (simp (disch := first | omega | assumption | rfl | (simp only [vcS] <;> omega) | fail) only [↓vcL2, ptS1_eq, ↓vcA, vcB, ↓vcD, vcE, ↓reduceIte, Nat.reduceEqDiff, Nat.reduceAdd, Nat.reduceMul, Nat.reduceLeDiff, Int.reduceLE, Int.reduceLT, Int.reduceEq, Int.reduceToNat, Int.reduceAdd, Int.reduceSub, Int.reduceMul, Int.reduceNeg, reduceCtorEq, Option.bind_some, Option.map_some, List.length_cons, List.length_nil, vcM, List.getElem?_toArray, List.getElem?_cons_zero, List.getElem?_cons_succ])
    (refine W_at c3_ok ?_; refine ⟨_, rfl, ?_⟩; simp (disch := first | omega | assumption | rfl | (simp only [vcS] <;> omega) | fail) only [↓ptV_l, ↓vcA, vcB, ↓vcD, vcE, ↓reduceIte, Nat.reduceEqDiff, Nat.reduceAdd, Nat.reduceMul, Nat.reduceLeDiff, Int.reduceLE, Int.reduceLT, Int.reduceEq, Int.reduceToNat, Int.reduceAdd, Int.reduceSub, Int.reduceMul, Int.reduceNeg, reduceCtorEq, Option.bind_some, Option.map_some, List.length_cons, List.length_nil, vcM, List.getElem?_toArray, List.getElem?_cons_zero, List.getElem?_cons_succ, Ret_returned])
    first | exact hE8 | exact ⟨rfl, hE8⟩
theorem law_bech (w : World) (h : List Int) (v : Value) (bs : List Int) (m : Bool) (hb : byt h) (hm : h.length ≤ maxLen) (hv : Rd w v bs) (hdb : byt bs) :
    Calls Tryd.prog 3 #[.string (strOf h), v, .bool m] w (Ret fun u w' => u = .bool true ∧ Ext w w') := by
  refine calls_of_cfg c3_ok (Nat.le_of_ble_eq_true rfl) ?_
  simp only [argE_nil, argE_cons, Nat.reduceAdd, Nat.zero_add]
  have hml : maxLen = 9223372036854775807 := rfl
  (refine W_at c3_ok ?_; refine ⟨_, rfl, ?_⟩; simp (disch := first | omega | assumption | rfl | (simp only [vcS] <;> omega) | fail) only [↓ptV_l, ↓vcA, vcB, ↓vcD, vcE, ↓reduceIte, Nat.reduceEqDiff, Nat.reduceAdd, Nat.reduceMul, Nat.reduceLeDiff, Int.reduceLE, Int.reduceLT, Int.reduceEq, Int.reduceToNat, Int.reduceAdd, Int.reduceSub, Int.reduceMul, Int.reduceNeg, reduceCtorEq, Option.bind_some, Option.map_some, List.length_cons, List.length_nil, vcM, List.getElem?_toArray, List.getElem?_cons_zero, List.getElem?_cons_succ])
  (refine W_at c3_ok ?_; refine ⟨_, rfl, ?_⟩; simp (disch := first | omega | assumption | rfl | (simp only [vcS] <;> omega) | fail) only [↓vcL1, ptS2_eq, ↓vcA, vcB, ↓vcD, vcE, ↓reduceIte, Nat.reduceEqDiff, Nat.reduceAdd, Nat.reduceMul, Nat.reduceLeDiff, Int.reduceLE, Int.reduceLT, Int.reduceEq, Int.reduceToNat, Int.reduceAdd, Int.reduceSub, Int.reduceMul, Int.reduceNeg, reduceCtorEq, Option.bind_some, Option.map_some, List.length_cons, List.length_nil, vcM, List.getElem?_toArray, List.getElem?_cons_zero, List.getElem?_cons_succ])
  refine callV_ret (awake_ok w) ?_
  rintro _ w1 ⟨rfl, hE1⟩
  simp (disch := first | omega | assumption | rfl | (simp only [vcS] <;> omega) | fail) only [↓vcL2, ptS1_eq, ↓vcA, vcB, ↓vcD, vcE, ↓reduceIte, Nat.reduceEqDiff, Nat.reduceAdd, Nat.reduceMul, Nat.reduceLeDiff, Int.reduceLE, Int.reduceLT, Int.reduceEq, Int.reduceToNat, Int.reduceAdd, Int.reduceSub, Int.reduceMul, Int.reduceNeg, reduceCtorEq, Option.bind_some, Option.map_some, List.length_cons, List.length_nil, vcM, List.getElem?_toArray, List.getElem?_cons_zero, List.getElem?_cons_succ]
  (refine W_at c3_ok ?_; refine ⟨_, rfl, ?_⟩; simp (disch := first | omega | assumption | rfl | (simp only [vcS] <;> omega) | fail) only [↓ptV_l, ↓vcA, vcB, ↓vcD, vcE, ↓reduceIte, Nat.reduceEqDiff, Nat.reduceAdd, Nat.reduceMul, Nat.reduceLeDiff, Int.reduceLE, Int.reduceLT, Int.reduceEq, Int.reduceToNat, Int.reduceAdd, Int.reduceSub, Int.reduceMul, Int.reduceNeg, reduceCtorEq, Option.bind_some, Option.map_some, List.length_cons, List.length_nil, vcM, List.getElem?_toArray, List.getElem?_cons_zero, List.getElem?_cons_succ])
  have hv1 := hv.ext hE1
  (refine W_at c3_ok ?_; refine ⟨_, rfl, ?_⟩; simp (disch := first | omega | assumption | rfl | (simp only [vcS] <;> omega) | fail) only [↓vcL1, ptS2_eq, ↓vcA, vcB, ↓vcD, vcE, ↓reduceIte, Nat.reduceEqDiff, Nat.reduceAdd, Nat.reduceMul, Nat.reduceLeDiff, Int.reduceLE, Int.reduceLT, Int.reduceEq, Int.reduceToNat, Int.reduceAdd, Int.reduceSub, Int.reduceMul, Int.reduceNeg, reduceCtorEq, Option.bind_some, Option.map_some, List.length_cons, List.length_nil, vcM, List.getElem?_toArray, List.getElem?_cons_zero, List.getElem?_cons_succ])
  refine callV_ret (short_ok w1 v bs 100 hv1) ?_
  rintro u2 wq ⟨hS, hw⟩
  obtain rfl : w1 = wq := hw.symm
  have hd := hS w1 hv1
  have hd1 : byt (bs.take 100) := byt_take hdb 100
  have hd2 : (bs.take 100).length ≤ 100 := by rw [List.length_take]; omega
  generalize bs.take 100 = xs at *
  clear hS
  simp (disch := first | omega | assumption | rfl | (simp only [vcS] <;> omega) | fail) only [↓vcL2, ptS1_eq, ↓vcA, vcB, ↓vcD, vcE, ↓reduceIte, Nat.reduceEqDiff, Nat.reduceAdd, Nat.reduceMul, Nat.reduceLeDiff, Int.reduceLE, Int.reduceLT, Int.reduceEq, Int.reduceToNat, Int.reduceAdd, Int.reduceSub, Int.reduceMul, Int.reduceNeg, reduceCtorEq, Option.bind_some, Option.map_some, List.length_cons, List.length_nil, vcM, List.getElem?_toArray, List.getElem?_cons_zero, List.getElem?_cons_succ]
  have hsz := str_size h
  by_cases hg : (100 : Int) < (h.length : Int)
  · have hc1 := str_cut h 0 100
    rw [List.drop_zero] at hc1
    have hk : (100 : Int) ≤ (h.length : Int) := by omega
    (refine W_at c3_ok ?_; refine ⟨_, rfl, ?_⟩; simp (disch := first | omega | assumption | rfl | (simp only [vcS] <;> omega) | fail) only [↓ptV_l, ↓vcA, vcB, ↓vcD, vcE, ↓reduceIte, Nat.reduceEqDiff, Nat.reduceAdd, Nat.reduceMul, Nat.reduceLeDiff, Int.reduceLE, Int.reduceLT, Int.reduceEq, Int.reduceToNat, Int.reduceAdd, Int.reduceSub, Int.reduceMul, Int.reduceNeg, reduceCtorEq, Option.bind_some, Option.map_some, List.length_cons, List.length_nil, vcM, List.getElem?_toArray, List.getElem?_cons_zero, List.getElem?_cons_succ, hsz, hg])
    (refine W_at c3_ok ?_; refine ⟨_, rfl, ?_⟩; simp (disch := first | omega | assumption | rfl | (simp only [vcS] <;> omega) | fail) only [↓ptV_l, ↓vcA, vcB, ↓vcD, vcE, ↓reduceIte, Nat.reduceEqDiff, Nat.reduceAdd, Nat.reduceMul, Nat.reduceLeDiff, Int.reduceLE, Int.reduceLT, Int.reduceEq, Int.reduceToNat, Int.reduceAdd, Int.reduceSub, Int.reduceMul, Int.reduceNeg, reduceCtorEq, Option.bind_some, Option.map_some, List.length_cons, List.length_nil, vcM, List.getElem?_toArray, List.getElem?_cons_zero, List.getElem?_cons_succ])
    (refine W_at c3_ok ?_; refine ⟨_, rfl, ?_⟩; simp (disch := first | omega | assumption | rfl | (simp only [vcS] <;> omega) | fail) only [↓ptV_l, ↓vcA, vcB, ↓vcD, vcE, ↓reduceIte, Nat.reduceEqDiff, Nat.reduceAdd, Nat.reduceMul, Nat.reduceLeDiff, Int.reduceLE, Int.reduceLT, Int.reduceEq, Int.reduceToNat, Int.reduceAdd, Int.reduceSub, Int.reduceMul, Int.reduceNeg, reduceCtorEq, Option.bind_some, Option.map_some, List.length_cons, List.length_nil, vcM, List.getElem?_toArray, List.getElem?_cons_zero, List.getElem?_cons_succ, hsz, hk, hc1])
    exact bech_tail w w1 (h.take 100) xs m u2 _ hE1 (byt_take hb 100) (by rw [List.length_take]; omega) hd hd1 hd2
  · (refine W_at c3_ok ?_; refine ⟨_, rfl, ?_⟩; simp (disch := first | omega | assumption | rfl | (simp only [vcS] <;> omega) | fail) only [↓ptV_l, ↓vcA, vcB, ↓vcD, vcE, ↓reduceIte, Nat.reduceEqDiff, Nat.reduceAdd, Nat.reduceMul, Nat.reduceLeDiff, Int.reduceLE, Int.reduceLT, Int.reduceEq, Int.reduceToNat, Int.reduceAdd, Int.reduceSub, Int.reduceMul, Int.reduceNeg, reduceCtorEq, Option.bind_some, Option.map_some, List.length_cons, List.length_nil, vcM, List.getElem?_toArray, List.getElem?_cons_zero, List.getElem?_cons_succ, hsz, hg])
    (refine W_at c3_ok ?_; refine ⟨_, rfl, ?_⟩; simp (disch := first | omega | assumption | rfl | (simp only [vcS] <;> omega) | fail) only [↓ptV_l, ↓vcA, vcB, ↓vcD, vcE, ↓reduceIte, Nat.reduceEqDiff, Nat.reduceAdd, Nat.reduceMul, Nat.reduceLeDiff, Int.reduceLE, Int.reduceLT, Int.reduceEq, Int.reduceToNat, Int.reduceAdd, Int.reduceSub, Int.reduceMul, Int.reduceNeg, reduceCtorEq, Option.bind_some, Option.map_some, List.length_cons, List.length_nil, vcM, List.getElem?_toArray, List.getElem?_cons_zero, List.getElem?_cons_succ])
    exact bech_tail w w1 h xs m u2 _ hE1 hb (by omega) hd hd1 hd2
end Go.Proofs
namespace Go.Proofs.YtajkhimlpnebdaaDoor
open Go.Vc Go.ChangeShapes Go.WideShapes Go.ChangeAt Go.RowKit Go.Proofs
set_option maxRecDepth 100000

theorem bech_lifted (os : Os) (started : os.Started) (H : Type) (enc : TypeId × Value → H) :
    ReturnsInHanded {} Tryd.checked os 3 .any (fun w args => (Rows.textBechSpec.pre enc Tryd.prog Tryd.f3 [] false w args ∧ laidMetH Tryd.prog laid3 w) ∧ sizedMet enc Tryd.prog Tryd.f3 (OpenSpec.ofChange Rows.textBechSpec) false w args)
      (Rows.textBechSpec.post enc Tryd.prog Tryd.f3 false true false false) := by
  refine returnsInHanded_of_change_and (C := Tryd.checked) (X := fun w _ => laidMetH Tryd.prog laid3 w) (fun _ _ _ hh h => h.of_heap hh) Tryd.own started (by kernel_rfl) Tryd.func3
    (ChangeSpec.witness_shaped (enc := enc) (C := Tryd.checked) (os := os) (X := fun w _ => laidMetH Tryd.prog laid3 w) false (World.laidAll Tryd.prog os laid3) #[.string ⟨#[]⟩, .slice none 0 0, .bool false] 8 (World.laidAll_os _ _ _)
      (World.shaped_of_ZipB (by kernel_rfl) (by kernel_rfl)) (by kernel_rfl) (by kernel_rfl) (by kernel_rfl) (laid3_met os _)) ?_
  intro W base args ds gs before hval0 hW _ _ _ _
  refine post_true Tryd.laidOut rfl rfl (tb := 4) (by kernel_rfl) ?_ ?_ hval0 hW ?_
  · rw [Tryd.params3]; intro t ht; simp at ht; rcases ht with rfl | rfl | rfl <;> exact ⟨by kernel_rfl, of_decide_eq_true (by kernel_rfl)⟩
  · intro ds hd; rw [Tryd.params3] at hd; match ds, hd with | [_, _, _], _ => rfl
  · intro hs ha
    rw [Tryd.params3] at hs ha
    obtain ⟨v, u, x, rfl⟩ := args_3 hs
    obtain ⟨h, rfl, hb, hm⟩ := str_arg (m := 6) (by kernel_rfl) Tryd.underlying9 (ha 0 9 v rfl rfl)
    obtain ⟨bs, hR, hd⟩ := bytes_of (argSl (m := 6) (e := .cons (.int .u8) .nil) (by kernel_rfl) Tryd.underlying22 (ha 1 22 u rfl rfl))
    obtain ⟨m, rfl⟩ := argBool (m := 6) (by kernel_rfl) Tryd.underlying4 (ha 2 4 x rfl rfl)
    exact law_bech W h u bs m hb hm hR hd
theorem bech_holds : Rows.TextBechSaid :=
  OpenClaim.holds_of_wide 3 Tryd.f3 rfl rfl rfl rfl rfl rfl rfl ⟨rfl, rfl, rfl, rfl, rfl⟩ rfl rfl rfl rfl rfl (by kernel_rfl) Tryd.func3 (by kernel_rfl)
    (of_decide_eq_true (by kernel_rfl)) (by unfold Func.isWrapper; first | (rw [if_pos (by decide +kernel)]; kernel_rfl) | (rw [if_neg (by decide +kernel)]; exact ⟨rfl, rfl⟩))
    (fun os started H enc _ => bech_lifted os started H enc)
theorem bechCard_holds : Rows.TextBechCardSaid :=
  Claim7.holds_tied_plain_at .later [] [.data, .pinned, .pinned] true Rows.textBechCard.stood.harness Rows.textBechCard.stood.looks
    bech_holds (fun _ h => by cases h) (by kernel_rfl) (fun _ h => by cases h) textBech_row_tie rfl ⟨rfl, rfl⟩ (by kernel_rfl) rfl
    (fun f fn hf hfn => by
      obtain rfl : f = 3 := Option.some.inj ((show Tryd.prog.funcNamed Rows.textBechRow.func = some 3 by kernel_rfl).symm.trans hf) |>.symm
      obtain rfl : fn = Tryd.f3 := (Option.some.inj (Tryd.func3.symm.trans hfn)).symm
      exact ⟨by kernel_rfl, fun j t ht => by
        rw [Tryd.params3] at ht
        have hm : t ∈ [9, 22, 4] := by simpa using Array.mem_of_getElem? ht
        have hall : ([9, 22, 4].all fun u => !Tryd.prog.wantsStandIn u) = true := by kernel_rfl
        exact (show Tryd.prog.wantsStandIn t = false by simpa using List.all_eq_true.1 hall t hm)⟩)
    (by kernel_rfl)
end Go.Proofs.YtajkhimlpnebdaaDoor
