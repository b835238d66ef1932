/- Laws that the last text of this claim uses, part 1: written for it, merged by program. -/
import Derived.KernelRfl
import Derived.Laws.Externs
import Derived.Lib.BytesEntry
import Derived.SizedLaws
import Derived.Test.YtmnogjgmkpjpoaaGreatProg
import Derived.Test.YtmnogjgmkpjpoaaGreatQF
import Derived.Test.YtmnogjgmkpjpoaaGreatQJ
import Derived.Test.YtmnogjgmkpjpoaaGreatQK
import Derived.Test.YtmnogjgmkpjpoaaGreatQM
import Derived.Test.YtmnogjgmkpjpoaaGreatQN
import Derived.Test.YtmnogjgmkpjpoaaGreatQR
set_option linter.unusedSimpArgs false
set_option linter.unusedVariables false
set_option linter.constructorNameAsVariable false
namespace Go.Proofs
open Go.Vc
abbrev qN:=List Vc.Node
abbrev qQ (d:Nat)(i:Vc.QI)(k:Vc.PT):Vc.PT:=.q (some d) none i k
abbrev qL (d:Nat)(i:Vc.LI)(k:Vc.PT):Vc.PT:=.l (some d) none i [] k
abbrev qt (n:Nat):Operand:=.tmp n
abbrev qk (n:Int):Operand:=.const (.int .i64 n)
noncomputable abbrev qF (f:Nat):=cfgL Tryz.prog f
abbrev qR (a b:Nat)(l:qN):=some (a,b,l.map Vc.Node.bare)
def c2:qN:=[
 .ret [],
 .reg (qL 0 (.callx 1 []) .done) false 0 []
 ]
def c3:qN:=[
 .ret [.t 4],
 .ret [.t 4],
 .reg (qQ 159 (.ldN 69 (qt 10)) (qL 160 (.call 6 [qt 159]) (qQ 161 (.bin .neq (qt 160) (qk 0)) (qQ 162 (.mov (qt 161)) (.q (some 163) (some (162,true)) (.fadr 0 (qt 2)) (.q (some 164) (some (162,true)) (.ldN 68 (qt 163)) (.q (some 166) (some (162,true)) (.fadr 0 (qt 2)) (.q (some 167) (some (162,true)) (.ldN 68 (qt 166)) (.l (some 165) (some (162,true)) (.call 10 [qt 164]) [⟨167,(some (162,true)),(.ldN 68 (qt 166))⟩] (.l (some 168) (some (162,true)) (.call 21 [qt 167]) [] (.l (some 169) (some (162,true)) (.call 20 [qt 165,qt 168]) [] (qQ 170 (.pick (qt 162) (qt 169) (.const (.bool false))) (qQ 4 (.mov (qt 170)) .done))))))))))))) true 1 [4],
 .reg (qQ 155 (.ldN 69 (qt 10)) (qL 156 (.call 19 [qt 155]) (qQ 157 (.fadr 0 (qt 10)) (qQ 158 (.fadr 33 (qt 157)) (.l none none (.stN 32 (qt 158) (qt 156)) [] .done))))) false 2 [2,10],
 .reg (qQ 142 (.fadr 68 (qt 10)) (qQ 143 (.ld1 (qt 142)) (qQ 144 (.fadr 68 (qt 10)) (qQ 145 (.ld1 (qt 144)) (qQ 146 (.fadr 68 (qt 10)) (qQ 147 (.ld1 (qt 146)) (qQ 148 (.len (qt 147)) (qQ 149 (.bin .sub (qt 148) (qk 1)) (qQ 150 (.iadrS 4 (qt 145) (qt 149)) (qQ 151 (.ldN 4 (qt 150)) (.l (some 152) none (.bldS 33 4 [qt 151]) [⟨143,none,(.ld1 (qt 142))⟩] (qL 153 (.app 33 4 64 [(1,(.int .i32 0)),(2,(.slice none 0 0)),(1,(.int .u32 0))] (qt 143) (qt 152)) (qQ 154 (.fadr 68 (qt 10)) (.l none none (.st1 (qt 154) (qt 153)) [] .done)))))))))))))) true 3 [2,10],
 .jmp 14,
 .reg (qQ 141 (.bin .add (qt 106) (qk 1)) (qQ 106 (.mov (qt 141)) .done)) false 5 [2,10,104,105,106],
 .ret [.t 4],
 .reg (qQ 4 (.mov (.const (.bool false))) .done) false 7 [4],
 .cnd (qt 140) 8 6,
 .reg (qQ 117 (.mov (qt 14)) (qQ 118 (.bin .neq (qt 117) (qk 0)) (qQ 119 (.mov (qt 118)) (.q (some 120) (some (119,false)) (.ldN 4 (qt 13)) (.l (some 121) (some (119,false)) (.call 16 [qt 120]) [] (.q (some 122) (some (119,false)) (.bin .neq (qt 121) (qk 0)) (qQ 123 (.pick (qt 119) (.const (.bool true)) (qt 122)) (qQ 124 (.mov (qt 123)) (.q (some 125) (some (124,false)) (.ldN 4 (qt 13)) (.q (some 127) (some (124,false)) (.mov (qt 11)) (.q (some 128) (some (124,false)) (.bin .eql (qt 127) (qk 0)) (.l (some 126) (some (124,false)) (.call 17 [qt 125]) [] (.q (some 129) (some (124,false)) (.eqB true (qt 126) (qt 128)) (qQ 130 (.pick (qt 124) (.const (.bool true)) (qt 129)) (qQ 131 (.mov (qt 130)) (.q (some 132) (some (131,false)) (.ldN 4 (qt 13)) (.q (some 133) (some (131,false)) (.fadr 68 (qt 2)) (.q (some 134) (some (131,false)) (.ld1 (qt 133)) (.q (some 135) (some (131,false)) (.mov (qt 11)) (.q (some 136) (some (131,false)) (.iadrS 4 (qt 134) (qt 135)) (.q (some 137) (some (131,false)) (.ldN 4 (qt 136)) (.l (some 138) (some (131,false)) (.call 18 [qt 132,qt 137]) [] (.q (some 139) (some (131,false)) (.not (qt 138)) (qQ 140 (.pick (qt 131) (.const (.bool true)) (qt 139)) .done)))))))))))))))))))))))) true 9 [2,10,104,105,106,140],
 .reg (qQ 112 (.ldN 4 (qt 12)) (qL 113 (.call 15 [qt 112,(.const (.bool true))]) (qL 114 (.call 14 [qt 113]) (qQ 111 (.mov (qt 114)) (qQ 115 (.ext 0 (qt 111)) (qQ 116 (.ext 1 (qt 111)) (qL 13 (.alloc 33 [(1,(.int .i32 0)),(2,(.slice none 0 0)),(1,(.int .u32 0))]) (.l none none (.stN 4 (qt 13) (qt 115)) [] (qQ 14 (.mov (qt 116)) .done))))))))) false 10 [2,10,11,13,14,104,105,106],
 .reg (qQ 108 (.mov (qt 106)) (qQ 109 (.iadrS 4 (qt 104) (qt 106)) (qQ 110 (.ldN 4 (qt 109)) (qL 12 (.alloc 33 [(1,(.int .i32 0)),(2,(.slice none 0 0)),(1,(.int .u32 0))]) (qQ 11 (.mov (qt 108)) (.l none none (.stN 4 (qt 12) (qt 110)) [] .done)))))) false 11 [2,10,11,12,104,105,106],
 .cnd (qt 107) 12 4,
 .reg (qQ 107 (.bin .lss (qt 106) (qt 105)) .done) false 13 [2,10,104,105,106,107],
 .reg (qQ 103 (.fadr 68 (qt 10)) (qQ 104 (.ld1 (qt 103)) (qQ 105 (.len (qt 104)) (qQ 106 (.mov (qk 0)) .done)))) false 14 [2,10,104,105,106],
 .ret [.t 4],
 .reg (qQ 4 (.mov (.const (.bool false))) .done) false 16 [4],
 .cnd (qt 102) 17 15,
 .reg (qQ 90 (.mov (qt 9)) (qQ 91 (.bin .neq (qt 90) (qk 0)) (qQ 92 (.mov (qt 91)) (.q (some 93) (some (92,false)) (.ldN 69 (qt 10)) (.l (some 94) (some (92,false)) (.call 6 [qt 93]) [] (.q (some 95) (some (92,false)) (.bin .neq (qt 94) (qk 0)) (qQ 96 (.pick (qt 92) (.const (.bool true)) (qt 95)) (qQ 97 (.mov (qt 96)) (.q (some 98) (some (97,false)) (.ldN 69 (qt 10)) (.q (some 99) (some (97,false)) (.ldN 69 (qt 2)) (.l (some 100) (some (97,false)) (.call 13 [qt 98,qt 99]) [] (.q (some 101) (some (97,false)) (.not (qt 100)) (qQ 102 (.pick (qt 97) (.const (.bool true)) (qt 101)) .done))))))))))))) false 18 [2,10,102],
 .reg (qQ 85 (.ldN 69 (qt 2)) (qL 86 (.call 12 [qt 85]) (qL 87 (.call 11 [qt 86]) (qQ 84 (.mov (qt 87)) (qQ 88 (.ext 0 (qt 84)) (qQ 89 (.ext 1 (qt 84)) (qL 10 (.alloc 29 [(1,(.int .i32 0)),(64,(.int .u8 0)),(3,(.int .u32 0)),(1,(.slice none 0 0))]) (.l none none (.stN 69 (qt 10) (qt 88)) [] (qQ 9 (.mov (qt 89)) .done))))))))) false 19 [2,9,10],
 .ret [.t 4],
 .reg (qQ 4 (.mov (.const (.bool true))) .done) false 21 [4],
 .cnd (qt 83) 22 20,
 .reg (qQ 82 (.mov (qt 9)) (qQ 83 (.bin .neq (qt 82) (qk 0)) .done)) false 23 [2,83],
 .ret [.t 4],
 .reg (qQ 4 (.mov (.const (.bool false))) .done) false 25 [4],
 .cnd (qt 81) 26 24,
 .reg (qQ 61 (.mov (qt 9)) (qQ 62 (.ldN 69 (qt 2)) (qL 63 (.call 7 [qt 62]) (qQ 64 (.bin .neq (qt 61) (qt 63)) (qQ 65 (.mov (qt 64)) (.q (some 66) (some (65,false)) (.fadr 0 (qt 2)) (.q (some 67) (some (65,false)) (.ldN 68 (qt 66)) (.q (some 69) (some (65,false)) (.fadr 0 (qt 2)) (.q (some 70) (some (65,false)) (.ldN 68 (qt 69)) (.l (some 68) (some (65,false)) (.call 8 [qt 67]) [⟨70,(some (65,false)),(.ldN 68 (qt 69))⟩] (.l (some 71) (some (65,false)) (.call 10 [qt 70]) [] (.l (some 72) (some (65,false)) (.call 9 [qt 71]) [] (.q (some 73) (some (65,false)) (.eqA true [(32,.i .u8)] (qt 68) (qt 72)) (qQ 74 (.pick (qt 65) (.const (.bool true)) (qt 73)) (qQ 75 (.mov (qt 74)) (.q (some 76) (some (75,false)) (.fadr 0 (qt 2)) (.q (some 77) (some (75,false)) (.ldN 68 (qt 76)) (.l (some 78) (some (75,false)) (.call 10 [qt 77]) [] (.q (some 79) (some (75,false)) (.len (qt 78)) (.q (some 80) (some (75,false)) (.bin .neq (qt 79) (qk 80)) (qQ 81 (.pick (qt 75) (.const (.bool true)) (qt 80)) .done))))))))))))))))))))) true 27 [2,9,81],
 .reg (qQ 59 (.ldN 69 (qt 2)) (qL 60 (.call 6 [qt 59]) (qQ 9 (.mov (qt 60)) .done))) false 28 [2,9],
 .jmp 34,
 .reg (qQ 51 (.mov (qt 8)) (qQ 52 (.bin .add (qt 51) (qk 1)) (qQ 8 (.mov (qt 52)) .done))) false 30 [1,2,8],
 .reg (qQ 53 (.fadr 0 (qt 2)) (qQ 54 (.fadr 67 (qt 53)) (qQ 55 (.ld1 (qt 54)) (qQ 56 (.bin .add (qt 55) (.const (.int .u32 1))) (qQ 57 (.fadr 0 (qt 2)) (qQ 58 (.fadr 67 (qt 57)) (.l none none (.st1 (qt 58) (qt 56)) [] .done))))))) false 31 [1,2,8],
 .cnd (qt 50) 32 29,
 .reg (qQ 38 (.mov (qt 8)) (qQ 39 (.mov (qt 1)) (qQ 40 (.bin .lss (qt 38) (qt 39)) (qQ 41 (.mov (qt 40)) (.q (some 42) (some (41,true)) (.mov (qt 8)) (.q (some 43) (some (41,true)) (.bin .lss (qt 42) (qk 20)) (qQ 44 (.pick (qt 41) (qt 43) (.const (.bool false))) (qQ 45 (.mov (qt 44)) (.q (some 46) (some (45,true)) (.fadr 0 (qt 2)) (.q (some 47) (some (45,true)) (.ldN 68 (qt 46)) (.l (some 48) (some (45,true)) (.call 5 [qt 47]) [] (.q (some 49) (some (45,true)) (.not (qt 48)) (qQ 50 (.pick (qt 45) (qt 49) (.const (.bool false))) .done))))))))))))) false 33 [1,2,8,50],
 .reg (qQ 8 (.mov (qk 0)) .done) false 34 [1,2,8],
 .reg (qQ 36 (.mov (qt 5)) (qQ 37 (.fadr 68 (qt 2)) (.l none none (.st1 (qt 37) (qt 36)) [] .done))) false 35 [1,2],
 .jmp 42,
 .reg (qQ 35 (.bin .add (qt 26) (qk 1)) (qQ 26 (.mov (qt 35)) .done)) false 37 [1,2,5,24,25,26],
 .reg (qQ 30 (.mov (qt 5)) (qQ 31 (.ldN 4 (qt 7)) (qL 32 (.call 4 [qt 31,qk 3,qk 100]) (qL 33 (.bldS 33 4 [qt 32]) (qL 34 (.app 33 4 64 [(1,(.int .i32 0)),(2,(.slice none 0 0)),(1,(.int .u32 0))] (qt 30) (qt 33)) (qQ 5 (.mov (qt 34)) .done)))))) false 38 [1,2,5,24,25,26],
 .reg (qQ 28 (.iadrS 4 (qt 24) (qt 26)) (qQ 29 (.ldN 4 (qt 28)) (qL 7 (.alloc 33 [(1,(.int .i32 0)),(2,(.slice none 0 0)),(1,(.int .u32 0))]) (.l none none (.stN 4 (qt 7) (qt 29)) [] .done)))) false 39 [1,2,5,7,24,25,26],
 .cnd (qt 27) 40 36,
 .reg (qQ 27 (.bin .lss (qt 26) (qt 25)) .done) false 41 [1,2,5,24,25,26,27],
 .reg (qQ 23 (.fadr 68 (qt 2)) (qQ 24 (.ld1 (qt 23)) (qQ 25 (.len (qt 24)) (qQ 26 (.mov (qk 0)) .done)))) false 42 [1,2,5,24,25,26],
 .reg (qQ 5 (.mov (.const (.slice none 0 0))) .done) false 43 [1,2,5],
 .reg (qQ 19 (.fadr 68 (qt 2)) (qQ 20 (.ld1 (qt 19)) (qQ 21 (.slcS 4 (qt 20) none (some (qk 5))) (qQ 22 (.fadr 68 (qt 2)) (.l none none (.st1 (qt 22) (qt 21)) [] .done))))) false 44 [1,2],
 .cnd (qt 18) 45 44,
 .reg (qQ 15 (.fadr 68 (qt 2)) (qQ 16 (.ld1 (qt 15)) (qQ 17 (.len (qt 16)) (qQ 18 (.bin .gtr (qt 17) (qk 5)) .done)))) false 46 [1,2,18],
 .reg (qL 2 (.box 29 (qt 0)) (qQ 4 (.mov (.const (.bool false))) .done)) false 47 [1,2]
 ]
theorem c3_ok:qF 3=qR 171 48 c3:=by kernel_rfl
def c4:qN:=[
 .ret [.cN 6 4],
 .ret [.cN 6 4],
 .reg (qQ 154 (.ldN 4 (qt 3)) (.l none none (.stN 4 (qt 6) (qt 154)) [] .done)) false 1 [6],
 .jmp 9,
 .reg (qQ 130 (.mov (qt 9)) (qQ 131 (.bin .add (qt 130) (qk 1)) (qQ 9 (.mov (qt 131)) .done))) false 3 [2,3,6,9],
 .reg (qQ 141 (.fadr 2 (qt 3)) (qQ 142 (.ld1 (qt 141)) (qQ 143 (.mov (qt 9)) (qQ 144 (.fadr 2 (qt 3)) (qQ 145 (.ld1 (qt 144)) (qQ 146 (.mov (qt 9)) (qQ 147 (.iadrS 2 (qt 145) (qt 146)) (qQ 148 (.fadr 1 (qt 147)) (qQ 149 (.ld1 (qt 148)) (qQ 150 (.mov (qt 2)) (qQ 151 (.slcS 1 (qt 149) none (some (qt 150))) (qQ 152 (.iadrS 2 (qt 142) (qt 143)) (qQ 153 (.fadr 1 (qt 152)) (.l none none (.st1 (qt 153) (qt 151)) [] .done)))))))))))))) true 4 [2,3,6,9],
 .cnd (qt 140) 5 4,
 .reg (qQ 132 (.fadr 2 (qt 3)) (qQ 133 (.ld1 (qt 132)) (qQ 134 (.mov (qt 9)) (qQ 135 (.iadrS 2 (qt 133) (qt 134)) (qQ 136 (.fadr 1 (qt 135)) (qQ 137 (.ld1 (qt 136)) (qQ 138 (.len (qt 137)) (qQ 139 (.mov (qt 2)) (qQ 140 (.bin .gtr (qt 138) (qt 139)) .done))))))))) false 6 [2,3,6,9,140],
 .cnd (qt 129) 7 2,
 .reg (qQ 125 (.mov (qt 9)) (qQ 126 (.fadr 2 (qt 3)) (qQ 127 (.ld1 (qt 126)) (qQ 128 (.len (qt 127)) (qQ 129 (.bin .lss (qt 125) (qt 128)) .done))))) false 8 [2,3,6,9,129],
 .reg (qQ 9 (.mov (qk 0)) .done) false 9 [2,3,6,9],
 .jmp 28,
 .reg (qQ 37 (.mov (qt 7)) (qQ 38 (.bin .add (qt 37) (qk 1)) (qQ 7 (.mov (qt 38)) .done))) false 11 [1,2,3,6,7],
 .jmp 19,
 .reg (qQ 92 (.mov (qt 8)) (qQ 93 (.bin .add (qt 92) (qk 1)) (qQ 8 (.mov (qt 93)) .done))) false 13 [1,2,3,6,7,8],
 .reg (qQ 106 (.fadr 1 (qt 3)) (qQ 107 (.ld1 (qt 106)) (qQ 108 (.mov (qt 7)) (qQ 109 (.iadrS 36 (qt 107) (qt 108)) (qQ 110 (.fadr 35 (qt 109)) (qQ 111 (.ld1 (qt 110)) (qQ 112 (.mov (qt 8)) (qQ 113 (.fadr 1 (qt 3)) (qQ 114 (.ld1 (qt 113)) (qQ 115 (.mov (qt 7)) (qQ 116 (.iadrS 36 (qt 114) (qt 115)) (qQ 117 (.fadr 35 (qt 116)) (qQ 118 (.ld1 (qt 117)) (qQ 119 (.mov (qt 8)) (qQ 120 (.iadrS 1 (qt 118) (qt 119)) (qQ 121 (.ld1 (qt 120)) (qQ 122 (.mov (qt 2)) (qQ 123 (.slcS 1 (qt 121) none (some (qt 122))) (qQ 124 (.iadrS 1 (qt 111) (qt 112)) (.l none none (.st1 (qt 124) (qt 123)) [] .done)))))))))))))))))))) true 14 [1,2,3,6,7,8],
 .cnd (qt 105) 15 14,
 .reg (qQ 94 (.fadr 1 (qt 3)) (qQ 95 (.ld1 (qt 94)) (qQ 96 (.mov (qt 7)) (qQ 97 (.iadrS 36 (qt 95) (qt 96)) (qQ 98 (.fadr 35 (qt 97)) (qQ 99 (.ld1 (qt 98)) (qQ 100 (.mov (qt 8)) (qQ 101 (.iadrS 1 (qt 99) (qt 100)) (qQ 102 (.ld1 (qt 101)) (qQ 103 (.len (qt 102)) (qQ 104 (.mov (qt 2)) (qQ 105 (.bin .gtr (qt 103) (qt 104)) .done)))))))))))) false 16 [1,2,3,6,7,8,105],
 .cnd (qt 91) 17 12,
 .reg (qQ 83 (.mov (qt 8)) (qQ 84 (.fadr 1 (qt 3)) (qQ 85 (.ld1 (qt 84)) (qQ 86 (.mov (qt 7)) (qQ 87 (.iadrS 36 (qt 85) (qt 86)) (qQ 88 (.fadr 35 (qt 87)) (qQ 89 (.ld1 (qt 88)) (qQ 90 (.len (qt 89)) (qQ 91 (.bin .lss (qt 83) (qt 90)) .done))))))))) false 18 [1,2,3,6,7,8,91],
 .reg (qQ 8 (.mov (qk 0)) .done) false 19 [1,2,3,6,7,8],
 .reg (qQ 70 (.fadr 1 (qt 3)) (qQ 71 (.ld1 (qt 70)) (qQ 72 (.mov (qt 7)) (qQ 73 (.fadr 1 (qt 3)) (qQ 74 (.ld1 (qt 73)) (qQ 75 (.mov (qt 7)) (qQ 76 (.iadrS 36 (qt 74) (qt 75)) (qQ 77 (.fadr 35 (qt 76)) (qQ 78 (.ld1 (qt 77)) (qQ 79 (.mov (qt 1)) (qQ 80 (.slcS 1 (qt 78) none (some (qt 79))) (qQ 81 (.iadrS 36 (qt 71) (qt 72)) (qQ 82 (.fadr 35 (qt 81)) (.l none none (.st1 (qt 82) (qt 80)) [] .done)))))))))))))) true 20 [1,2,3,6,7],
 .cnd (qt 69) 21 20,
 .reg (qQ 61 (.fadr 1 (qt 3)) (qQ 62 (.ld1 (qt 61)) (qQ 63 (.mov (qt 7)) (qQ 64 (.iadrS 36 (qt 62) (qt 63)) (qQ 65 (.fadr 35 (qt 64)) (qQ 66 (.ld1 (qt 65)) (qQ 67 (.len (qt 66)) (qQ 68 (.mov (qt 1)) (qQ 69 (.bin .gtr (qt 67) (qt 68)) .done))))))))) false 22 [1,2,3,6,7,69],
 .reg (qQ 48 (.fadr 1 (qt 3)) (qQ 49 (.ld1 (qt 48)) (qQ 50 (.mov (qt 7)) (qQ 51 (.fadr 1 (qt 3)) (qQ 52 (.ld1 (qt 51)) (qQ 53 (.mov (qt 7)) (qQ 54 (.iadrS 36 (qt 52) (qt 53)) (qQ 55 (.fadr 33 (qt 54)) (qQ 56 (.ld1 (qt 55)) (qQ 57 (.mov (qt 2)) (qQ 58 (.slcS 1 (qt 56) none (some (qt 57))) (qQ 59 (.iadrS 36 (qt 49) (qt 50)) (qQ 60 (.fadr 33 (qt 59)) (.l none none (.st1 (qt 60) (qt 58)) [] .done)))))))))))))) true 23 [1,2,3,6,7],
 .cnd (qt 47) 24 23,
 .reg (qQ 39 (.fadr 1 (qt 3)) (qQ 40 (.ld1 (qt 39)) (qQ 41 (.mov (qt 7)) (qQ 42 (.iadrS 36 (qt 40) (qt 41)) (qQ 43 (.fadr 33 (qt 42)) (qQ 44 (.ld1 (qt 43)) (qQ 45 (.len (qt 44)) (qQ 46 (.mov (qt 2)) (qQ 47 (.bin .gtr (qt 45) (qt 46)) .done))))))))) false 25 [1,2,3,6,7,47],
 .cnd (qt 36) 26 10,
 .reg (qQ 32 (.mov (qt 7)) (qQ 33 (.fadr 1 (qt 3)) (qQ 34 (.ld1 (qt 33)) (qQ 35 (.len (qt 34)) (qQ 36 (.bin .lss (qt 32) (qt 35)) .done))))) false 27 [1,2,3,6,7,36],
 .reg (qQ 7 (.mov (qk 0)) .done) false 28 [1,2,3,6,7],
 .reg (qQ 27 (.fadr 2 (qt 3)) (qQ 28 (.ld1 (qt 27)) (qQ 29 (.mov (qt 1)) (qQ 30 (.slcS 2 (qt 28) none (some (qt 29))) (qQ 31 (.fadr 2 (qt 3)) (.l none none (.st1 (qt 31) (qt 30)) [] .done)))))) false 29 [1,2,3,6],
 .cnd (qt 26) 30 29,
 .reg (qQ 22 (.fadr 2 (qt 3)) (qQ 23 (.ld1 (qt 22)) (qQ 24 (.len (qt 23)) (qQ 25 (.mov (qt 1)) (qQ 26 (.bin .gtr (qt 24) (qt 25)) .done))))) false 31 [1,2,3,6,26],
 .reg (qQ 17 (.fadr 1 (qt 3)) (qQ 18 (.ld1 (qt 17)) (qQ 19 (.mov (qt 1)) (qQ 20 (.slcS 36 (qt 18) none (some (qt 19))) (qQ 21 (.fadr 1 (qt 3)) (.l none none (.st1 (qt 21) (qt 20)) [] .done)))))) false 32 [1,2,3,6],
 .cnd (qt 16) 33 32,
 .reg (qQ 12 (.fadr 1 (qt 3)) (qQ 13 (.ld1 (qt 12)) (qQ 14 (.len (qt 13)) (qQ 15 (.mov (qt 1)) (qQ 16 (.bin .gtr (qt 14) (qt 15)) .done))))) false 34 [1,2,3,6,16],
 .reg (qQ 10 (.ldN 4 (qt 3)) (qL 11 (.call 22 [qt 10]) (.l none none (.stN 4 (qt 3) (qt 11)) [] .done))) false 35 [1,2,3,6],
 .reg (qL 3 (.box 33 (qt 0)) (qL 6 (.alloc 33 [(1,(.int .i32 0)),(2,(.slice none 0 0)),(1,(.int .u32 0))]) .done)) false 36 [1,2,3,6]
 ]
theorem c4_ok:qF 4=qR 155 37 c4:=by kernel_rfl
def c5:qN:=[
 .ret [.t 2],
 .ret [.t 2],
 .reg (qQ 26 (.mov (qt 4)) (qQ 27 (.mov (qt 26)) (.q (some 28) (some (27,true)) (.ldN 32 (qt 3)) (.q (some 29) (some (27,true)) (.ldN 32 (qt 6)) (.l (some 30) (some (27,true)) (.call 25 [qt 28,qt 29]) [] (.q (some 31) (some (27,true)) (.not (qt 30)) (qQ 32 (.pick (qt 27) (qt 31) (.const (.bool false))) (qQ 2 (.mov (qt 32)) .done)))))))) false 1 [2],
 .jmp 7,
 .reg (qQ 18 (.mov (qt 7)) (qQ 19 (.bin .add (qt 18) (qk 1)) (qQ 7 (.mov (qt 19)) .done))) false 3 [3,4,5,6,7],
 .reg (qQ 20 (.mov (qt 7)) (qQ 21 (.mov (qt 7)) (qQ 22 (.bin .sub (qk 31) (qt 21)) (qQ 23 (.iadrA 32 1 (qt 5) (qt 22)) (qQ 24 (.ld1 (qt 23)) (qQ 25 (.iadrA 32 1 (qt 6) (qt 20)) (.l none none (.st1 (qt 25) (qt 24)) [] .done))))))) false 4 [3,4,5,6,7],
 .cnd (qt 17) 5 2,
 .reg (qQ 16 (.mov (qt 7)) (qQ 17 (.bin .lss (qt 16) (qk 32)) .done)) false 6 [3,4,5,6,7,17],
 .reg (qQ 7 (.mov (qk 0)) .done) false 7 [3,4,5,6,7],
 .reg (qL 6 (.alloc 22 [(32,(.int .u8 0))]) .done) false 8 [3,4,5,6],
 .reg (qQ 14 (.ldN 68 (qt 1)) (qL 15 (.call 24 [qt 14]) (qL 5 (.alloc 22 [(32,(.int .u8 0))]) (.l none none (.stN 32 (qt 5) (qt 15)) [] .done)))) false 9 [3,4,5],
 .reg (qQ 9 (.fadr 66 (qt 1)) (qQ 10 (.ld1 (qt 9)) (qL 11 (.call 23 [qt 10]) (qQ 8 (.mov (qt 11)) (qQ 12 (.ext 0 (qt 8)) (qQ 13 (.ext 1 (qt 8)) (qL 3 (.alloc 22 [(32,(.int .u8 0))]) (.l none none (.stN 32 (qt 3) (qt 12)) [] (qQ 4 (.mov (qt 13)) .done))))))))) false 10 [1,3,4],
 .reg (qL 1 (.box 26 (qt 0)) (qQ 2 (.mov (.const (.bool false))) .done)) false 11 [1]
 ]
theorem c5_ok:qF 5=qR 33 12 c5:=by kernel_rfl
def c6:qN:=[
 .ret [.t 2],
 .ret [.t 2],
 .reg (qQ 2 (.mov (qk 0)) .done) false 1 [2],
 .jmp 13,
 .reg (qQ 75 (.bin .add (qt 64) (qk 1)) (qQ 64 (.mov (qt 75)) .done)) false 3 [8,62,63,64],
 .reg (qQ 73 (.mov (qt 8)) (qQ 74 (.ldN 32 (qt 11)) (.l none none (.mapU [(32,.i .u8)] true (qt 73) (qt 74) (.const (.bool true))) [] .done))) false 4 [8,62,63,64],
 .ret [.t 2],
 .reg (qQ 2 (.mov (qk 18)) .done) false 6 [2],
 .cnd (qt 72) 7 5,
 .reg (qQ 70 (.mov (qt 8)) (qQ 71 (.ldN 32 (qt 11)) (qQ 72 (.lkp [(32,.i .u8)] true false [(1,(.bool false))] false (qt 70) (qt 71)) .done))) false 8 [8,11,62,63,64,72],
 .reg (qQ 68 (.ldN 4 (qt 10)) (qL 69 (.call 27 [qt 68]) (qL 11 (.alloc 23 [(32,(.int .u8 0))]) (.l none none (.stN 32 (qt 11) (qt 69)) [] .done)))) false 9 [8,11,62,63,64],
 .reg (qQ 66 (.iadrS 4 (qt 62) (qt 64)) (qQ 67 (.ldN 4 (qt 66)) (qL 10 (.alloc 33 [(1,(.int .i32 0)),(2,(.slice none 0 0)),(1,(.int .u32 0))]) (.l none none (.stN 4 (qt 10) (qt 67)) [] .done)))) false 10 [8,10,62,63,64],
 .cnd (qt 65) 11 2,
 .reg (qQ 65 (.bin .lss (qt 64) (qt 63)) .done) false 12 [8,62,63,64,65],
 .reg (qQ 61 (.fadr 68 (qt 1)) (qQ 62 (.ld1 (qt 61)) (qQ 63 (.len (qt 62)) (qQ 64 (.mov (qk 0)) .done)))) false 13 [8,62,63,64],
 .reg (.l (some 60) none .mkM [] (qQ 8 (.mov (qt 60)) .done)) false 14 [1,8],
 .jmp 25,
 .reg (qQ 59 (.bin .add (qt 50) (qk 1)) (qQ 50 (.mov (qt 59)) .done)) false 16 [1,48,49,50],
 .ret [.t 2],
 .reg (qQ 58 (.mov (qt 7)) (qQ 2 (.mov (qt 58)) .done)) false 18 [2],
 .cnd (qt 57) 19 17,
 .reg (qQ 56 (.mov (qt 7)) (qQ 57 (.bin .neq (qt 56) (qk 0)) .done)) false 20 [1,7,48,49,50,57],
 .reg (qQ 54 (.ldN 4 (qt 6)) (qL 55 (.call 16 [qt 54]) (qQ 7 (.mov (qt 55)) .done))) false 21 [1,7,48,49,50],
 .reg (qQ 52 (.iadrS 4 (qt 48) (qt 50)) (qQ 53 (.ldN 4 (qt 52)) (qL 6 (.alloc 33 [(1,(.int .i32 0)),(2,(.slice none 0 0)),(1,(.int .u32 0))]) (.l none none (.stN 4 (qt 6) (qt 53)) [] .done)))) false 22 [1,6,48,49,50],
 .cnd (qt 51) 23 15,
 .reg (qQ 51 (.bin .lss (qt 50) (qt 49)) .done) false 24 [1,48,49,50,51],
 .reg (qQ 47 (.fadr 68 (qt 1)) (qQ 48 (.ld1 (qt 47)) (qQ 49 (.len (qt 48)) (qQ 50 (.mov (qk 0)) .done)))) false 25 [1,48,49,50],
 .ret [.t 2],
 .reg (qQ 2 (.mov (qk 3)) .done) false 27 [2],
 .ret [.t 2],
 .reg (qQ 2 (.mov (qk 2)) .done) false 29 [2],
 .ret [.t 2],
 .reg (qQ 2 (.mov (qk 5)) .done) false 31 [2],
 .cnd (qt 40) 32 26,
 .reg (qQ 41 (.fadr 0 (qt 1)) (qQ 42 (.fadr 33 (qt 41)) (qQ 43 (.ldN 32 (qt 42)) (qQ 44 (.ldN 69 (qt 1)) (.l (some 45) none (.call 19 [qt 44]) [⟨43,none,(.ldN 32 (qt 42))⟩] (qQ 46 (.eqA true [(32,.i .u8)] (qt 43) (qt 45)) (qQ 40 (.mov (qt 46)) .done))))))) true 33 [1,40],
 .cnd (qt 35) 30 34,
 .reg (qQ 36 (.ldN 69 (qt 1)) (qL 37 (.call 12 [qt 36]) (qQ 38 (.len (qt 37)) (qQ 39 (.bin .gtr (qt 38) (qk 1000000)) (qQ 35 (.mov (qt 39)) .done))))) false 35 [1,35],
 .cnd (qt 30) 28 36,
 .reg (qQ 31 (.fadr 68 (qt 1)) (qQ 32 (.ld1 (qt 31)) (qQ 33 (.len (qt 32)) (qQ 34 (.bin .eql (qt 33) (qk 0)) (qQ 30 (.mov (qt 34)) .done))))) false 37 [1,30],
 .jmp 47,
 .reg (qQ 29 (.bin .add (qt 19) (qk 1)) (qQ 19 (.mov (qt 29)) .done)) false 39 [1,17,18,19],
 .ret [.t 2],
 .reg (qQ 2 (.mov (qk 3)) .done) false 41 [2],
 .cnd (qt 28) 42 40,
 .reg (qQ 24 (.ldN 4 (qt 4)) (qL 25 (.call 17 [qt 24]) (qQ 26 (.mov (qt 3)) (qQ 27 (.bin .eql (qt 26) (qk 0)) (qQ 28 (.eqB true (qt 25) (qt 27)) .done))))) false 43 [1,17,18,19,28],
 .reg (qQ 21 (.mov (qt 19)) (qQ 22 (.iadrS 4 (qt 17) (qt 19)) (qQ 23 (.ldN 4 (qt 22)) (qL 4 (.alloc 33 [(1,(.int .i32 0)),(2,(.slice none 0 0)),(1,(.int .u32 0))]) (qQ 3 (.mov (qt 21)) (.l none none (.stN 4 (qt 4) (qt 23)) [] .done)))))) false 44 [1,3,4,17,18,19],
 .cnd (qt 20) 45 38,
 .reg (qQ 20 (.bin .lss (qt 19) (qt 18)) .done) false 46 [1,17,18,19,20],
 .reg (qQ 16 (.fadr 68 (qt 1)) (qQ 17 (.ld1 (qt 16)) (qQ 18 (.len (qt 17)) (qQ 19 (.mov (qk 0)) .done)))) false 47 [1,17,18,19],
 .ret [.t 2],
 .reg (qQ 2 (.mov (qk 12)) .done) false 49 [2],
 .cnd (qt 15) 50 48,
 .reg (qQ 12 (.fadr 0 (qt 1)) (qQ 13 (.ldN 68 (qt 12)) (qL 14 (.call 26 [qt 13]) (qQ 15 (.not (qt 14)) .done)))) false 51 [1,15],
 .reg (qL 1 (.box 29 (qt 0)) (qQ 2 (.mov (qk 0)) .done)) false 52 [1]
 ]
theorem c6_ok:qF 6=qR 76 53 c6:=by kernel_rfl
def c7:qN:=[
 .ret [.t 2],
 .ret [.t 2],
 .reg (qQ 2 (.mov (qk 0)) .done) false 1 [2],
 .jmp 15,
 .reg (qQ 63 (.mov (qt 6)) (qQ 64 (.bin .add (qt 63) (qk 1)) (qQ 6 (.mov (qt 64)) .done))) false 3 [1,6],
 .jmp 12,
 .reg (qQ 68 (.mov (qt 7)) (qQ 69 (.bin .add (qt 68) (qk 1)) (qQ 7 (.mov (qt 69)) .done))) false 5 [1,6,7],
 .ret [.t 2],
 .reg (qQ 2 (.mov (qk 18)) .done) false 7 [2],
 .cnd (qt 82) 8 6,
 .reg (qQ 70 (.fadr 68 (qt 1)) (qQ 71 (.ld1 (qt 70)) (qQ 72 (.mov (qt 6)) (qQ 73 (.iadrS 4 (qt 71) (qt 72)) (qQ 74 (.ldN 4 (qt 73)) (qQ 76 (.fadr 68 (qt 1)) (qQ 77 (.ld1 (qt 76)) (qQ 78 (.mov (qt 7)) (qQ 79 (.iadrS 4 (qt 77) (qt 78)) (qQ 80 (.ldN 4 (qt 79)) (.l (some 75) none (.call 32 [qt 74]) [⟨80,none,(.ldN 4 (qt 79))⟩,⟨77,none,(.ld1 (qt 76))⟩] (qL 81 (.call 32 [qt 80]) (qQ 82 (.eqA false [(32,.i .u8)] (qt 75) (qt 81)) .done))))))))))))) true 9 [1,6,7,82],
 .cnd (qt 67) 10 4,
 .reg (qQ 65 (.mov (qt 7)) (qQ 66 (.mov (qt 6)) (qQ 67 (.bin .lss (qt 65) (qt 66)) .done))) false 11 [1,6,7,67],
 .reg (qQ 7 (.mov (qk 0)) .done) false 12 [1,6,7],
 .cnd (qt 62) 13 2,
 .reg (qQ 58 (.mov (qt 6)) (qQ 59 (.fadr 68 (qt 1)) (qQ 60 (.ld1 (qt 59)) (qQ 61 (.len (qt 60)) (qQ 62 (.bin .lss (qt 58) (qt 61)) .done))))) false 14 [1,6,62],
 .reg (qQ 6 (.mov (qk 0)) .done) false 15 [1,6],
 .jmp 25,
 .reg (qQ 47 (.mov (qt 4)) (qQ 48 (.bin .add (qt 47) (qk 1)) (qQ 4 (.mov (qt 48)) .done))) false 17 [1,4],
 .ret [.t 2],
 .reg (qQ 57 (.mov (qt 5)) (qQ 2 (.mov (qt 57)) .done)) false 19 [2],
 .cnd (qt 56) 20 18,
 .reg (qQ 55 (.mov (qt 5)) (qQ 56 (.bin .neq (qt 55) (qk 0)) .done)) false 21 [1,4,5,56],
 .reg (qQ 49 (.fadr 68 (qt 1)) (qQ 50 (.ld1 (qt 49)) (qQ 51 (.mov (qt 4)) (qQ 52 (.iadrS 4 (qt 50) (qt 51)) (qQ 53 (.ldN 4 (qt 52)) (qL 54 (.call 31 [qt 53]) (qQ 5 (.mov (qt 54)) .done))))))) false 22 [1,4,5],
 .cnd (qt 46) 23 16,
 .reg (qQ 42 (.mov (qt 4)) (qQ 43 (.fadr 68 (qt 1)) (qQ 44 (.ld1 (qt 43)) (qQ 45 (.len (qt 44)) (qQ 46 (.bin .lss (qt 42) (qt 45)) .done))))) false 24 [1,4,46],
 .reg (qQ 4 (.mov (qk 0)) .done) false 25 [1,4],
 .ret [.t 2],
 .reg (qQ 2 (.mov (qk 5)) .done) false 27 [2],
 .cnd (qt 41) 28 26,
 .reg (qQ 36 (.fadr 0 (qt 1)) (qQ 37 (.fadr 33 (qt 36)) (qQ 38 (.ldN 32 (qt 37)) (qQ 39 (.ldN 69 (qt 1)) (.l (some 40) none (.call 30 [qt 39]) [⟨38,none,(.ldN 32 (qt 37))⟩] (qQ 41 (.eqA true [(32,.i .u8)] (qt 38) (qt 40)) .done)))))) true 29 [1,41],
 .ret [.t 2],
 .reg (qQ 2 (.mov (qk 2)) .done) false 31 [2],
 .cnd (qt 35) 32 30,
 .reg (qQ 32 (.ldN 69 (qt 1)) (qL 33 (.call 29 [qt 32]) (qQ 34 (.len (qt 33)) (qQ 35 (.bin .gtr (qt 34) (qk 1000000)) .done)))) false 33 [1,35],
 .jmp 42,
 .reg (qQ 21 (.mov (qt 3)) (qQ 22 (.bin .add (qt 21) (qk 1)) (qQ 3 (.mov (qt 22)) .done))) false 35 [1,3],
 .ret [.t 2],
 .reg (qQ 2 (.mov (qk 3)) .done) false 37 [2],
 .cnd (qt 31) 38 36,
 .reg (qQ 23 (.fadr 68 (qt 1)) (qQ 24 (.ld1 (qt 23)) (qQ 25 (.mov (qt 3)) (qQ 26 (.iadrS 4 (qt 24) (qt 25)) (qQ 27 (.ldN 4 (qt 26)) (qL 28 (.call 28 [qt 27]) (qQ 29 (.mov (qt 3)) (qQ 30 (.bin .eql (qt 29) (qk 0)) (qQ 31 (.eqB true (qt 28) (qt 30)) .done))))))))) false 39 [1,3,31],
 .cnd (qt 20) 40 34,
 .reg (qQ 16 (.mov (qt 3)) (qQ 17 (.fadr 68 (qt 1)) (qQ 18 (.ld1 (qt 17)) (qQ 19 (.len (qt 18)) (qQ 20 (.bin .lss (qt 16) (qt 19)) .done))))) false 41 [1,3,20],
 .reg (qQ 3 (.mov (qk 0)) .done) false 42 [1,3],
 .ret [.t 2],
 .reg (qQ 2 (.mov (qk 3)) .done) false 44 [2],
 .cnd (qt 15) 45 43,
 .reg (qQ 12 (.fadr 68 (qt 1)) (qQ 13 (.ld1 (qt 12)) (qQ 14 (.len (qt 13)) (qQ 15 (.bin .eql (qt 14) (qk 0)) .done)))) false 46 [1,15],
 .ret [.t 2],
 .reg (qQ 2 (.mov (qk 12)) .done) false 48 [2],
 .cnd (qt 11) 49 47,
 .reg (qQ 8 (.fadr 0 (qt 1)) (qQ 9 (.ldN 68 (qt 8)) (qL 10 (.call 5 [qt 9]) (qQ 11 (.not (qt 10)) .done)))) false 50 [1,11],
 .reg (qL 1 (.box 29 (qt 0)) (qQ 2 (.mov (qk 0)) .done)) false 51 [1]
 ]
theorem c7_ok:qF 7=qR 83 52 c7:=by kernel_rfl
def c8:qN:=[
 .ret [.cN 2 32],
 .ret [.cN 2 32],
 .reg (qQ 3 (.ldN 68 (qt 1)) (qL 4 (.call 10 [qt 3]) (qL 5 (.call 9 [qt 4]) (.l none none (.stN 32 (qt 2) (qt 5)) [] .done)))) false 1 [2],
 .reg (qL 1 (.box 26 (qt 0)) (qL 2 (.alloc 23 [(32,(.int .u8 0))]) .done)) false 2 [1,2]
 ]
theorem c8_ok:qF 8=qR 6 3 c8:=by kernel_rfl
def c9:qN:=[
 .ret [.cN 2 32],
 .ret [.cN 2 32],
 .reg (qL 6 (.call 34 [qt 3]) (.l none none (.stN 32 (qt 2) (qt 6)) [] .done)) false 1 [2],
 .reg (qQ 4 (.mov (qt 0)) (qL 5 (.call 33 [qt 3,qt 4]) .done)) false 2 [2,3],
 .reg (qL 3 (.alloc 77 [(8,(.int .u32 0)),(1,(.slice none 0 0)),(1,(.int .u64 0)),(1,(.bool false))]) .done) false 3 [0,2,3],
 .reg (qL 2 (.alloc 23 [(32,(.int .u8 0))]) .done) false 4 [0,2]
 ]
theorem c9_ok:qF 9=qR 7 5 c9:=by kernel_rfl
def c10:qN:=[
 .ret [.t 2],
 .ret [.t 2],
 .reg (qL 23 (.call 37 [qt 3]) (qQ 2 (.mov (qt 23)) .done)) false 1 [2],
 .reg (qQ 20 (.fadr 67 (qt 1)) (qQ 21 (.ld1 (qt 20)) (qL 22 (.call 35 [qt 3,qt 21]) .done))) false 2 [3],
 .reg (qQ 17 (.fadr 66 (qt 1)) (qQ 18 (.ld1 (qt 17)) (qL 19 (.call 35 [qt 3,qt 18]) .done))) false 3 [1,3],
 .reg (qQ 14 (.fadr 65 (qt 1)) (qQ 15 (.ld1 (qt 14)) (qL 16 (.call 35 [qt 3,qt 15]) .done))) false 4 [1,3],
 .reg (qQ 11 (.fadr 33 (qt 1)) (qQ 12 (.slcA 32 1 (qt 11) none none) (qL 13 (.call 36 [qt 3,qt 12]) .done))) false 5 [1,3],
 .reg (qQ 8 (.fadr 1 (qt 1)) (qQ 9 (.slcA 32 1 (qt 8) none none) (qL 10 (.call 36 [qt 3,qt 9]) .done))) false 6 [1,3],
 .reg (qQ 4 (.fadr 0 (qt 1)) (qQ 5 (.ld1 (qt 4)) (qQ 6 (.cvi .u32 (qt 5)) (qL 7 (.call 35 [qt 3,qt 6]) .done)))) false 7 [1,3],
 .reg (qL 3 (.alloc 81 [(1,(.slice none 0 0))]) .done) false 8 [1,3],
 .reg (qL 1 (.box 26 (qt 0)) (qQ 2 (.mov (.const (.slice none 0 0))) .done)) false 9 [1]
 ]
theorem c10_ok:qF 10=qR 24 10 c10:=by kernel_rfl
def c11:qN:=[
 .ret [.cN 2 69,.t 3],
 .ret [.cN 2 69,.t 3],
 .reg (qQ 55 (.ldN 69 (qt 5)) (.l none none (.stN 69 (qt 2) (qt 55)) [] (qQ 3 (.mov (qk 0)) .done))) false 1 [2,3],
 .ret [.cN 2 69,.t 3],
 .reg (qQ 53 (.bld [.z [(1,(.int .i32 0)),(64,(.int .u8 0)),(3,(.int .u32 0)),(1,(.slice none 0 0))]]) (qQ 54 (.mov (qt 10)) (.l none none (.stN 69 (qt 2) (qt 53)) [] (qQ 3 (.mov (qt 54)) .done)))) false 3 [2,3],
 .cnd (qt 52) 4 2,
 .reg (qQ 51 (.mov (qt 10)) (qQ 52 (.bin .neq (qt 51) (qk 0)) .done)) false 5 [2,5,10,52],
 .reg (qQ 49 (.mov (qt 4)) (qL 50 (.call 43 [qt 49]) (qQ 10 (.mov (qt 50)) .done))) false 6 [2,5,10],
 .jmp 20,
 .reg (qQ 48 (.bin .add (qt 26) (.const (.int .u64 1))) (qQ 26 (.mov (qt 48)) .done)) false 8 [2,4,5,25,26],
 .reg (qQ 42 (.fadr 68 (qt 5)) (qQ 43 (.ld1 (qt 42)) (qQ 44 (.ldN 4 (qt 8)) (qL 45 (.bldS 33 4 [qt 44]) (qL 46 (.app 33 4 64 [(1,(.int .i32 0)),(2,(.slice none 0 0)),(1,(.int .u32 0))] (qt 43) (qt 45)) (qQ 47 (.fadr 68 (qt 5)) (.l none none (.st1 (qt 47) (qt 46)) [] .done))))))) false 9 [2,4,5,25,26],
 .ret [.cN 2 69,.t 3],
 .reg (qQ 40 (.bld [.z [(1,(.int .i32 0)),(64,(.int .u8 0)),(3,(.int .u32 0)),(1,(.slice none 0 0))]]) (qQ 41 (.mov (qt 9)) (.l none none (.stN 69 (qt 2) (qt 40)) [] (qQ 3 (.mov (qt 41)) .done)))) false 11 [2,3],
 .cnd (qt 39) 12 10,
 .reg (qQ 38 (.mov (qt 9)) (qQ 39 (.bin .neq (qt 38) (qk 0)) .done)) false 13 [2,4,5,8,9,25,26,39],
 .reg (qQ 34 (.mov (qt 7)) (qL 35 (.call 14 [qt 34]) (qQ 33 (.mov (qt 35)) (qQ 36 (.ext 0 (qt 33)) (qQ 37 (.ext 1 (qt 33)) (qL 8 (.alloc 33 [(1,(.int .i32 0)),(2,(.slice none 0 0)),(1,(.int .u32 0))]) (.l none none (.stN 4 (qt 8) (qt 36)) [] (qQ 9 (.mov (qt 37)) .done)))))))) false 14 [2,4,5,8,9,25,26],
 .cnd (qt 32) 7 15,
 .reg (qQ 30 (.mov (qt 4)) (qL 31 (.call 42 [qt 30]) (qQ 32 (.bin .neq (qt 31) (qk 0)) .done))) false 16 [2,4,5,7,25,26,32],
 .reg (qQ 28 (.mov (qt 4)) (qL 29 (.call 41 [qt 28,qk 100000]) (qQ 7 (.mov (qt 29)) .done))) false 17 [2,4,5,7,25,26],
 .cnd (qt 27) 18 7,
 .reg (qQ 27 (.bin .lss (qt 26) (qt 25)) .done) false 19 [2,4,5,25,26,27],
 .reg (qQ 25 (.mov (qt 6)) (qQ 26 (.mov (.const (.int .u64 0))) .done)) false 20 [2,4,5,25,26],
 .ret [.cN 2 69,.t 3],
 .reg (qQ 24 (.bld [.z [(1,(.int .i32 0)),(64,(.int .u8 0)),(3,(.int .u32 0)),(1,(.slice none 0 0))]]) (.l none none (.stN 69 (qt 2) (qt 24)) [] (qQ 3 (.mov (qk 2)) .done))) false 22 [2,3],
 .cnd (qt 23) 23 21,
 .reg (qQ 22 (.mov (qt 6)) (qQ 23 (.bin .gtr (qt 22) (.const (.int .u64 10000))) .done)) false 24 [2,4,5,6,23],
 .reg (qQ 20 (.mov (qt 4)) (qL 21 (.call 40 [qt 20]) (qQ 6 (.mov (qt 21)) .done))) false 25 [2,4,5,6],
 .reg (qQ 17 (.mov (qt 4)) (qL 18 (.call 39 [qt 17]) (qQ 19 (.bld [.x 68 (qt 18),.z [(1,(.slice none 0 0))]]) (qL 5 (.alloc 29 [(1,(.int .i32 0)),(64,(.int .u8 0)),(3,(.int .u32 0)),(1,(.slice none 0 0))]) (.l none none (.stN 69 (qt 5) (qt 19)) [] .done))))) false 26 [2,4,5],
 .reg (qQ 15 (.mov (qt 0)) (qL 16 (.call 38 [qt 15]) (qQ 4 (.mov (qt 16)) .done))) false 27 [2,4],
 .ret [.cN 2 69,.t 3],
 .reg (qQ 14 (.bld [.z [(1,(.int .i32 0)),(64,(.int .u8 0)),(3,(.int .u32 0)),(1,(.slice none 0 0))]]) (.l none none (.stN 69 (qt 2) (qt 14)) [] (qQ 3 (.mov (qk 2)) .done))) false 29 [2,3],
 .cnd (qt 13) 30 28,
 .reg (qQ 11 (.mov (qt 0)) (qQ 12 (.len (qt 11)) (qQ 13 (.bin .gtr (qt 12) (qk 1000000)) .done))) false 31 [0,2,13],
 .reg (qL 2 (.alloc 29 [(1,(.int .i32 0)),(64,(.int .u8 0)),(3,(.int .u32 0)),(1,(.slice none 0 0))]) (qQ 3 (.mov (qk 0)) .done)) false 32 [0,2]
 ]
theorem c11_ok:qF 11=qR 56 33 c11:=by kernel_rfl
def c12:qN:=[
 .ret [.t 2],
 .ret [.t 2],
 .reg (qL 26 (.call 37 [qt 3]) (qQ 2 (.mov (qt 26)) .done)) false 1 [2],
 .jmp 8,
 .reg (qQ 25 (.bin .add (qt 18) (qk 1)) (qQ 18 (.mov (qt 25)) .done)) false 3 [3,16,17,18],
 .reg (qQ 22 (.ldN 4 (qt 5)) (qL 23 (.call 15 [qt 22,(.const (.bool true))]) (qL 24 (.call 45 [qt 3,qt 23]) .done))) false 4 [3,16,17,18],
 .reg (qQ 20 (.iadrS 4 (qt 16) (qt 18)) (qQ 21 (.ldN 4 (qt 20)) (qL 5 (.alloc 33 [(1,(.int .i32 0)),(2,(.slice none 0 0)),(1,(.int .u32 0))]) (.l none none (.stN 4 (qt 5) (qt 21)) [] .done)))) false 5 [3,5,16,17,18],
 .cnd (qt 19) 6 2,
 .reg (qQ 19 (.bin .lss (qt 18) (qt 17)) .done) false 7 [3,16,17,18,19],
 .reg (qQ 15 (.fadr 68 (qt 1)) (qQ 16 (.ld1 (qt 15)) (qQ 17 (.len (qt 16)) (qQ 18 (.mov (qk 0)) .done)))) false 8 [3,16,17,18],
 .reg (qQ 10 (.fadr 68 (qt 1)) (qQ 11 (.ld1 (qt 10)) (qQ 12 (.len (qt 11)) (qQ 13 (.cvi .u64 (qt 12)) (qL 14 (.call 44 [qt 3,qt 13]) .done))))) false 9 [1,3],
 .reg (qQ 6 (.fadr 0 (qt 1)) (qQ 7 (.ldN 68 (qt 6)) (qL 8 (.call 10 [qt 7]) (qL 9 (.call 36 [qt 3,qt 8]) .done)))) false 10 [1,3],
 .reg (qL 3 (.alloc 81 [(1,(.slice none 0 0))]) .done) false 11 [1,3],
 .reg (qL 1 (.box 29 (qt 0)) (qQ 2 (.mov (.const (.slice none 0 0))) .done)) false 12 [1]
 ]
theorem c12_ok:qF 12=qR 27 13 c12:=by kernel_rfl
def c13:qN:=[
 .ret [.t 4],
 .ret [.t 4],
 .reg (qQ 4 (.mov (.const (.bool true))) .done) false 1 [4],
 .jmp 10,
 .reg (qQ 25 (.mov (qt 5)) (qQ 26 (.bin .add (qt 25) (qk 1)) (qQ 5 (.mov (qt 26)) .done))) false 3 [2,3,5],
 .ret [.t 4],
 .reg (qQ 4 (.mov (.const (.bool false))) .done) false 5 [4],
 .cnd (qt 38) 6 4,
 .reg (qQ 27 (.fadr 68 (qt 2)) (qQ 28 (.ld1 (qt 27)) (qQ 29 (.mov (qt 5)) (qQ 30 (.iadrS 4 (qt 28) (qt 29)) (qQ 31 (.ldN 4 (qt 30)) (qQ 32 (.fadr 68 (qt 3)) (qQ 33 (.ld1 (qt 32)) (qQ 34 (.mov (qt 5)) (qQ 35 (.iadrS 4 (qt 33) (qt 34)) (qQ 36 (.ldN 4 (qt 35)) (qL 37 (.call 46 [qt 31,qt 36]) (qQ 38 (.not (qt 37)) .done)))))))))))) true 7 [2,3,5,38],
 .cnd (qt 24) 8 2,
 .reg (qQ 20 (.mov (qt 5)) (qQ 21 (.fadr 68 (qt 2)) (qQ 22 (.ld1 (qt 21)) (qQ 23 (.len (qt 22)) (qQ 24 (.bin .lss (qt 20) (qt 23)) .done))))) false 9 [2,3,5,24],
 .reg (qQ 5 (.mov (qk 0)) .done) false 10 [2,3,5],
 .ret [.t 4],
 .reg (qQ 4 (.mov (.const (.bool false))) .done) false 12 [4],
 .cnd (qt 19) 13 11,
 .reg (qQ 6 (.fadr 0 (qt 2)) (qQ 7 (.ldN 68 (qt 6)) (qQ 8 (.fadr 0 (qt 3)) (qQ 9 (.ldN 68 (qt 8)) (qQ 10 (.eqA true [(1,.i .i32),(64,.i .u8),(3,.i .u32)] (qt 7) (qt 9)) (qQ 11 (.mov (qt 10)) (.q (some 12) (some (11,false)) (.fadr 68 (qt 2)) (.q (some 13) (some (11,false)) (.ld1 (qt 12)) (.q (some 14) (some (11,false)) (.len (qt 13)) (.q (some 15) (some (11,false)) (.fadr 68 (qt 3)) (.q (some 16) (some (11,false)) (.ld1 (qt 15)) (.q (some 17) (some (11,false)) (.len (qt 16)) (.q (some 18) (some (11,false)) (.bin .neq (qt 14) (qt 17)) (qQ 19 (.pick (qt 11) (.const (.bool true)) (qt 18)) .done)))))))))))))) false 14 [2,3,19],
 .reg (qL 2 (.box 29 (qt 0)) (qL 3 (.box 29 (qt 1)) (qQ 4 (.mov (.const (.bool false))) .done))) false 15 [2,3]
 ]
theorem c13_ok:qF 13=qR 39 16 c13:=by kernel_rfl
def c14:qN:=[
 .ret [.cN 2 4,.c1 3],
 .ret [.cN 2 4,.c1 3],
 .reg (qQ 9 (.mov (qt 0)) (qL 10 (.call 38 [qt 9]) (qQ 11 (.bld [.x 1 (qt 10)]) (qL 12 (.call 48 [qt 11]) (.l none none (.stN 4 (qt 2) (qt 12)) [] (.l none none (.st1 (qt 3) (qk 0)) [] .done)))))) false 1 [2,3],
 .dfr 8 47 [qt 2,qt 3] 2 [0,2,3],
 .ret [.cN 2 4,.c1 3],
 .reg (qQ 7 (.bld [.z [(1,(.int .i32 0)),(2,(.slice none 0 0)),(1,(.int .u32 0))]]) (.l none none (.stN 4 (qt 2) (qt 7)) [] (.l none none (.st1 (qt 3) (qk 2)) [] .done))) false 4 [2,3],
 .cnd (qt 6) 5 3,
 .reg (qQ 4 (.mov (qt 0)) (qQ 5 (.len (qt 4)) (qQ 6 (.bin .gtr (qt 5) (qk 100000)) .done))) false 6 [0,2,3,6],
 .reg (qL 2 (.alloc 33 [(1,(.int .i32 0)),(2,(.slice none 0 0)),(1,(.int .u32 0))]) (qL 3 (.alloc 36 [(1,(.int .i64 0))]) .done)) false 7 [0,2,3]
 ]
theorem c14_ok:qF 14=qR 13 8 c14:=by kernel_rfl
def c15:qN:=[
 .ret [.t 4],
 .ret [.t 4],
 .reg (qL 100 (.call 37 [qt 5]) (qQ 4 (.mov (qt 100)) .done)) false 1 [4],
 .reg (qQ 97 (.fadr 3 (qt 2)) (qQ 98 (.ld1 (qt 97)) (qL 99 (.call 35 [qt 5,qt 98]) .done))) false 2 [5],
 .jmp 16,
 .reg (qQ 96 (.bin .add (qt 77) (qk 1)) (qQ 77 (.mov (qt 96)) .done)) false 4 [2,5,75,76,77],
 .jmp 11,
 .reg (qQ 95 (.bin .add (qt 89) (qk 1)) (qQ 89 (.mov (qt 95)) .done)) false 6 [2,5,75,76,77,87,88,89],
 .reg (qQ 93 (.mov (qt 13)) (qL 94 (.call 45 [qt 5,qt 93]) .done)) false 7 [2,5,75,76,77,87,88,89],
 .reg (qQ 91 (.iadrS 1 (qt 87) (qt 89)) (qQ 92 (.ld1 (qt 91)) (qQ 13 (.mov (qt 92)) .done))) false 8 [2,5,13,75,76,77,87,88,89],
 .cnd (qt 90) 9 5,
 .reg (qQ 90 (.bin .lss (qt 89) (qt 88)) .done) false 10 [2,5,75,76,77,87,88,89,90],
 .reg (qQ 86 (.fadr 35 (qt 11)) (qQ 87 (.ld1 (qt 86)) (qQ 88 (.len (qt 87)) (qQ 89 (.mov (qk 0)) .done)))) false 11 [2,5,75,76,77,87,88,89],
 .reg (qQ 81 (.fadr 35 (qt 11)) (qQ 82 (.ld1 (qt 81)) (qQ 83 (.len (qt 82)) (qQ 84 (.cvi .u64 (qt 83)) (qL 85 (.call 44 [qt 5,qt 84]) .done))))) false 12 [2,5,11,75,76,77],
 .reg (qQ 79 (.iadrS 36 (qt 75) (qt 77)) (qQ 80 (.ldN 36 (qt 79)) (qL 11 (.alloc 61 [(32,(.int .u8 0)),(1,(.int .u32 0)),(1,(.slice none 0 0)),(1,(.int .u32 0)),(1,(.slice none 0 0))]) (.l none none (.stN 36 (qt 11) (qt 80)) [] .done)))) false 13 [2,5,11,75,76,77],
 .cnd (qt 78) 14 3,
 .reg (qQ 78 (.bin .lss (qt 77) (qt 76)) .done) false 15 [2,5,75,76,77,78],
 .reg (qQ 74 (.fadr 1 (qt 2)) (qQ 75 (.ld1 (qt 74)) (qQ 76 (.len (qt 75)) (qQ 77 (.mov (qk 0)) .done)))) false 16 [2,5,75,76,77],
 .cnd (qt 73) 17 3,
 .reg (qQ 73 (.mov (qt 1)) .done) false 18 [2,5,73],
 .jmp 26,
 .reg (qQ 72 (.bin .add (qt 61) (qk 1)) (qQ 61 (.mov (qt 72)) .done)) false 20 [1,2,5,59,60,61],
 .reg (qQ 69 (.fadr 1 (qt 9)) (qQ 70 (.ld1 (qt 69)) (qL 71 (.call 45 [qt 5,qt 70]) .done))) false 21 [1,2,5,59,60,61],
 .reg (qQ 65 (.fadr 0 (qt 9)) (qQ 66 (.ld1 (qt 65)) (qQ 67 (.cvi .u64 (qt 66)) (qL 68 (.call 50 [qt 5,qt 67]) .done)))) false 22 [1,2,5,9,59,60,61],
 .reg (qQ 63 (.iadrS 2 (qt 59) (qt 61)) (qQ 64 (.ldN 2 (qt 63)) (qL 9 (.alloc 63 [(1,(.int .i64 0)),(1,(.slice none 0 0))]) (.l none none (.stN 2 (qt 9) (qt 64)) [] .done)))) false 23 [1,2,5,9,59,60,61],
 .cnd (qt 62) 24 19,
 .reg (qQ 62 (.bin .lss (qt 61) (qt 60)) .done) false 25 [1,2,5,59,60,61,62],
 .reg (qQ 58 (.fadr 2 (qt 2)) (qQ 59 (.ld1 (qt 58)) (qQ 60 (.len (qt 59)) (qQ 61 (.mov (qk 0)) .done)))) false 26 [1,2,5,59,60,61],
 .reg (qQ 53 (.fadr 2 (qt 2)) (qQ 54 (.ld1 (qt 53)) (qQ 55 (.len (qt 54)) (qQ 56 (.cvi .u64 (qt 55)) (qL 57 (.call 44 [qt 5,qt 56]) .done))))) false 27 [1,2,5],
 .jmp 37,
 .reg (qQ 52 (.bin .add (qt 34) (qk 1)) (qQ 34 (.mov (qt 52)) .done)) false 29 [1,2,5,32,33,34],
 .reg (qQ 49 (.fadr 34 (qt 7)) (qQ 50 (.ld1 (qt 49)) (qL 51 (.call 35 [qt 5,qt 50]) .done))) false 30 [1,2,5,32,33,34],
 .reg (qQ 46 (.fadr 33 (qt 7)) (qQ 47 (.ld1 (qt 46)) (qL 48 (.call 45 [qt 5,qt 47]) .done))) false 31 [1,2,5,7,32,33,34],
 .reg (qQ 42 (.fadr 0 (qt 7)) (qQ 43 (.fadr 32 (qt 42)) (qQ 44 (.ld1 (qt 43)) (qL 45 (.call 35 [qt 5,qt 44]) .done)))) false 32 [1,2,5,7,32,33,34],
 .reg (qQ 38 (.fadr 0 (qt 7)) (qQ 39 (.fadr 0 (qt 38)) (qQ 40 (.slcA 32 1 (qt 39) none none) (qL 41 (.call 36 [qt 5,qt 40]) .done)))) false 33 [1,2,5,7,32,33,34],
 .reg (qQ 36 (.iadrS 36 (qt 32) (qt 34)) (qQ 37 (.ldN 36 (qt 36)) (qL 7 (.alloc 61 [(32,(.int .u8 0)),(1,(.int .u32 0)),(1,(.slice none 0 0)),(1,(.int .u32 0)),(1,(.slice none 0 0))]) (.l none none (.stN 36 (qt 7) (qt 37)) [] .done)))) false 34 [1,2,5,7,32,33,34],
 .cnd (qt 35) 35 28,
 .reg (qQ 35 (.bin .lss (qt 34) (qt 33)) .done) false 36 [1,2,5,32,33,34,35],
 .reg (qQ 31 (.fadr 1 (qt 2)) (qQ 32 (.ld1 (qt 31)) (qQ 33 (.len (qt 32)) (qQ 34 (.mov (qk 0)) .done)))) false 37 [1,2,5,32,33,34],
 .reg (qQ 26 (.fadr 1 (qt 2)) (qQ 27 (.ld1 (qt 26)) (qQ 28 (.len (qt 27)) (qQ 29 (.cvi .u64 (qt 28)) (qL 30 (.call 44 [qt 5,qt 29]) .done))))) false 38 [1,2,5],
 .reg (qL 24 (.bldS 5 1 [(.const (.int .u8 0)),(.const (.int .u8 1))]) (qL 25 (.call 36 [qt 5,qt 24]) .done)) false 39 [1,2,5],
 .cnd (qt 23) 40 39,
 .reg (qQ 23 (.mov (qt 1)) .done) false 41 [1,2,5,23],
 .reg (qQ 19 (.fadr 0 (qt 2)) (qQ 20 (.ld1 (qt 19)) (qQ 21 (.cvi .u32 (qt 20)) (qL 22 (.call 35 [qt 5,qt 21]) .done)))) false 42 [1,2,5],
 .reg (qQ 14 (.mov (qt 1)) (qQ 15 (.mov (qt 14)) (.q (some 16) (some (15,true)) (.ldN 4 (qt 2)) (.l (some 17) (some (15,true)) (.call 49 [qt 16]) [] (qQ 18 (.pick (qt 15) (qt 17) (.const (.bool false))) (qQ 1 (.mov (qt 18)) .done)))))) false 43 [1,2,5],
 .reg (qL 5 (.alloc 81 [(1,(.slice none 0 0))]) .done) false 44 [1,2,5],
 .reg (qL 2 (.box 33 (qt 0)) (qQ 4 (.mov (.const (.slice none 0 0))) .done)) false 45 [1,2]
 ]
theorem c15_ok:qF 15=qR 101 46 c15:=by kernel_rfl
def c16:qN:=[
 .ret [.t 2],
 .ret [.t 2],
 .reg (qQ 2 (.mov (qk 0)) .done) false 1 [2],
 .ret [.t 2],
 .reg (qQ 2 (.mov (qk 3)) .done) false 3 [2],
 .cnd (qt 76) 4 2,
 .reg (qQ 71 (.mov (qt 11)) (qQ 72 (.bin .lss (qt 71) (qk 2)) (qQ 73 (.mov (qt 72)) (.q (some 74) (some (73,false)) (.mov (qt 11)) (.q (some 75) (some (73,false)) (.bin .gtr (qt 74) (qk 100)) (qQ 76 (.pick (qt 73) (.const (.bool true)) (qt 75)) .done)))))) false 5 [76],
 .reg (qQ 65 (.fadr 1 (qt 1)) (qQ 66 (.ld1 (qt 65)) (qQ 67 (.iadrS 36 (qt 66) (qk 0)) (qQ 68 (.fadr 33 (qt 67)) (qQ 69 (.ld1 (qt 68)) (qQ 70 (.len (qt 69)) (qQ 11 (.mov (qt 70)) .done))))))) false 6 [11],
 .ret [.t 2],
 .reg (qQ 2 (.mov (qk 7)) .done) false 8 [2],
 .cnd (qt 79) 9 2,
 .reg (qQ 77 (.mov (qt 8)) (qL 78 (.call 52 []) (qQ 79 (.lkp [(32,.i .u8),(1,.i .u32)] true false [(1,(.bool false))] false (qt 77) (qt 78)) .done))) false 10 [79],
 .cnd (qt 64) 7 11,
 .reg (qQ 63 (.ldN 4 (qt 1)) (qL 64 (.call 17 [qt 63]) .done)) false 12 [1,8,64],
 .jmp 23,
 .reg (qQ 62 (.bin .add (qt 51) (qk 1)) (qQ 51 (.mov (qt 62)) .done)) false 14 [1,8,49,50,51],
 .reg (qQ 59 (.mov (qt 8)) (qQ 60 (.fadr 0 (qt 10)) (qQ 61 (.ldN 33 (qt 60)) (.l none none (.mapU [(32,.i .u8),(1,.i .u32)] true (qt 59) (qt 61) (.const (.bool true))) [] .done)))) false 15 [1,8,49,50,51],
 .ret [.t 2],
 .reg (qQ 2 (.mov (qk 18)) .done) false 17 [2],
 .cnd (qt 58) 18 16,
 .reg (qQ 55 (.mov (qt 8)) (qQ 56 (.fadr 0 (qt 10)) (qQ 57 (.ldN 33 (qt 56)) (qQ 58 (.lkp [(32,.i .u8),(1,.i .u32)] true false [(1,(.bool false))] false (qt 55) (qt 57)) .done)))) false 19 [1,8,10,49,50,51,58],
 .reg (qQ 53 (.iadrS 36 (qt 49) (qt 51)) (qQ 54 (.ldN 36 (qt 53)) (qL 10 (.alloc 61 [(32,(.int .u8 0)),(1,(.int .u32 0)),(1,(.slice none 0 0)),(1,(.int .u32 0)),(1,(.slice none 0 0))]) (.l none none (.stN 36 (qt 10) (qt 54)) [] .done)))) false 20 [1,8,10,49,50,51],
 .cnd (qt 52) 21 13,
 .reg (qQ 52 (.bin .lss (qt 51) (qt 50)) .done) false 22 [1,8,49,50,51,52],
 .reg (qQ 48 (.fadr 1 (qt 1)) (qQ 49 (.ld1 (qt 48)) (qQ 50 (.len (qt 49)) (qQ 51 (.mov (qk 0)) .done)))) false 23 [1,8,49,50,51],
 .reg (.l (some 47) none .mkM [] (qQ 8 (.mov (qt 47)) .done)) false 24 [1,8],
 .ret [.t 2],
 .reg (qQ 46 (.mov (qt 7)) (qQ 2 (.mov (qt 46)) .done)) false 26 [2],
 .cnd (qt 45) 27 25,
 .reg (qQ 44 (.mov (qt 7)) (qQ 45 (.bin .neq (qt 44) (qk 0)) .done)) false 28 [1,7,45],
 .reg (qQ 40 (.mov (qt 3)) (qL 41 (.call 51 [qt 40]) (qQ 39 (.mov (qt 41)) (qQ 42 (.ext 0 (qt 39)) (qQ 43 (.ext 1 (qt 39)) (qQ 6 (.mov (qt 42)) (qQ 7 (.mov (qt 43)) .done))))))) false 29 [1,7],
 .jmp 36,
 .reg (qQ 38 (.bin .add (qt 29) (qk 1)) (qQ 29 (.mov (qt 38)) .done)) false 31 [1,3,27,28,29],
 .reg (qQ 33 (.mov (qt 3)) (qQ 34 (.fadr 0 (qt 5)) (qQ 35 (.ld1 (qt 34)) (qL 36 (.bldS 2 1 [qt 35]) (qL 37 (.app 2 1 8 [(1,(.int .i64 0))] (qt 33) (qt 36)) (qQ 3 (.mov (qt 37)) .done)))))) false 32 [1,3,27,28,29],
 .reg (qQ 31 (.iadrS 2 (qt 27) (qt 29)) (qQ 32 (.ldN 2 (qt 31)) (qL 5 (.alloc 63 [(1,(.int .i64 0)),(1,(.slice none 0 0))]) (.l none none (.stN 2 (qt 5) (qt 32)) [] .done)))) false 33 [1,3,5,27,28,29],
 .cnd (qt 30) 34 30,
 .reg (qQ 30 (.bin .lss (qt 29) (qt 28)) .done) false 35 [1,3,27,28,29,30],
 .reg (qQ 26 (.fadr 2 (qt 1)) (qQ 27 (.ld1 (qt 26)) (qQ 28 (.len (qt 27)) (qQ 29 (.mov (qk 0)) .done)))) false 36 [1,3,27,28,29],
 .reg (qQ 3 (.mov (.const (.slice none 0 0))) .done) false 37 [1,3],
 .ret [.t 2],
 .reg (qQ 2 (.mov (qk 2)) .done) false 39 [2],
 .cnd (qt 25) 40 38,
 .reg (qQ 22 (.ldN 4 (qt 1)) (qL 23 (.call 15 [qt 22,(.const (.bool false))]) (qQ 24 (.len (qt 23)) (qQ 25 (.bin .gtr (qt 24) (qk 100000)) .done)))) false 41 [1,25],
 .ret [.t 2],
 .reg (qQ 2 (.mov (qk 3)) .done) false 43 [2],
 .cnd (qt 21) 44 42,
 .reg (qQ 12 (.fadr 1 (qt 1)) (qQ 13 (.ld1 (qt 12)) (qQ 14 (.len (qt 13)) (qQ 15 (.bin .eql (qt 14) (qk 0)) (qQ 16 (.mov (qt 15)) (.q (some 17) (some (16,false)) (.fadr 2 (qt 1)) (.q (some 18) (some (16,false)) (.ld1 (qt 17)) (.q (some 19) (some (16,false)) (.len (qt 18)) (.q (some 20) (some (16,false)) (.bin .eql (qt 19) (qk 0)) (qQ 21 (.pick (qt 16) (.const (.bool true)) (qt 20)) .done)))))))))) false 45 [1,21],
 .reg (qL 1 (.box 33 (qt 0)) (qQ 2 (.mov (qk 0)) .done)) false 46 [1]
 ]
theorem c16_ok:qF 16=qR 80 47 c16:=by kernel_rfl
def c17:qN:=[
 .ret [.t 2],
 .ret [.t 2],
 .reg (qQ 3 (.fadr 1 (qt 1)) (qQ 4 (.ld1 (qt 3)) (qQ 5 (.len (qt 4)) (qQ 6 (.bin .eql (qt 5) (qk 1)) (qQ 7 (.mov (qt 6)) (.q (some 8) (some (7,true)) (.fadr 1 (qt 1)) (.q (some 9) (some (7,true)) (.ld1 (qt 8)) (.q (some 10) (some (7,true)) (.iadrS 36 (qt 9) (qk 0)) (.q (some 11) (some (7,true)) (.fadr 0 (qt 10)) (.q (some 12) (some (7,true)) (.ldN 33 (qt 11)) (.l (some 13) (some (7,true)) (.call 52 []) [⟨12,(some (7,true)),(.ldN 33 (qt 11))⟩,⟨9,(some (7,true)),(.ld1 (qt 8))⟩] (.q (some 14) (some (7,true)) (.eqA false [(32,.i .u8),(1,.i .u32)] (qt 12) (qt 13)) (qQ 15 (.pick (qt 7) (qt 14) (.const (.bool false))) (qQ 2 (.mov (qt 15)) .done)))))))))))))) true 1 [2],
 .reg (qL 1 (.box 33 (qt 0)) (qQ 2 (.mov (.const (.bool false))) .done)) false 2 [1]
 ]
theorem c17_ok:qF 17=qR 16 3 c17:=by kernel_rfl
def c18:qN:=[
 .ret [.t 4],
 .ret [.t 4],
 .reg (qQ 5 (.fadr 0 (qt 2)) (qQ 6 (.ld1 (qt 5)) (qQ 7 (.fadr 0 (qt 3)) (qQ 8 (.ld1 (qt 7)) (qQ 9 (.bin .eql (qt 6) (qt 8)) (qQ 10 (.mov (qt 9)) (.q (some 11) (some (10,true)) (.fadr 3 (qt 2)) (.q (some 12) (some (10,true)) (.ld1 (qt 11)) (.q (some 13) (some (10,true)) (.fadr 3 (qt 3)) (.q (some 14) (some (10,true)) (.ld1 (qt 13)) (.q (some 15) (some (10,true)) (.bin .eql (qt 12) (qt 14)) (qQ 16 (.pick (qt 10) (qt 15) (.const (.bool false))) (qQ 17 (.mov (qt 16)) (.q (some 18) (some (17,true)) (.fadr 1 (qt 2)) (.q (some 19) (some (17,true)) (.ld1 (qt 18)) (.q (some 20) (some (17,true)) (.fadr 1 (qt 3)) (.q (some 21) (some (17,true)) (.ld1 (qt 20)) (.l (some 22) (some (17,true)) (.call 53 [qt 19,qt 21,(.func 54)]) [] (qQ 23 (.pick (qt 17) (qt 22) (.const (.bool false))) (qQ 24 (.mov (qt 23)) (.q (some 25) (some (24,true)) (.fadr 2 (qt 2)) (.q (some 26) (some (24,true)) (.ld1 (qt 25)) (.q (some 27) (some (24,true)) (.fadr 2 (qt 3)) (.q (some 28) (some (24,true)) (.ld1 (qt 27)) (.l (some 29) (some (24,true)) (.call 55 [qt 26,qt 28,(.func 56)]) [] (qQ 30 (.pick (qt 24) (qt 29) (.const (.bool false))) (qQ 4 (.mov (qt 30)) .done))))))))))))))))))))))))))) false 1 [4],
 .reg (qL 2 (.box 33 (qt 0)) (qL 3 (.box 33 (qt 1)) (qQ 4 (.mov (.const (.bool false))) .done))) false 2 [2,3]
 ]
theorem c18_ok:qF 18=qR 31 3 c18:=by kernel_rfl
def c19:qN:=[
 .ret [.cN 2 32],
 .ret [.cN 2 32],
 .reg (qQ 19 (.mov (qt 3)) (qL 20 (.call 58 [qt 19]) (.l none none (.stN 32 (qt 2) (qt 20)) [] .done))) false 1 [2],
 .jmp 8,
 .reg (qQ 18 (.bin .add (qt 9) (qk 1)) (qQ 9 (.mov (qt 18)) .done)) false 3 [2,3,7,8,9],
 .reg (qQ 13 (.mov (qt 3)) (qQ 14 (.ldN 4 (qt 5)) (qL 15 (.call 57 [qt 14]) (qL 16 (.bldS 23 32 [qt 15]) (qL 17 (.app 23 32 32 [(32,(.int .u8 0))] (qt 13) (qt 16)) (qQ 3 (.mov (qt 17)) .done)))))) false 4 [2,3,7,8,9],
 .reg (qQ 11 (.iadrS 4 (qt 7) (qt 9)) (qQ 12 (.ldN 4 (qt 11)) (qL 5 (.alloc 33 [(1,(.int .i32 0)),(2,(.slice none 0 0)),(1,(.int .u32 0))]) (.l none none (.stN 4 (qt 5) (qt 12)) [] .done)))) false 5 [2,3,5,7,8,9],
 .cnd (qt 10) 6 2,
 .reg (qQ 10 (.bin .lss (qt 9) (qt 8)) .done) false 7 [2,3,7,8,9,10],
 .reg (qQ 6 (.fadr 68 (qt 1)) (qQ 7 (.ld1 (qt 6)) (qQ 8 (.len (qt 7)) (qQ 9 (.mov (qk 0)) .done)))) false 8 [2,3,7,8,9],
 .reg (qQ 3 (.mov (.const (.slice none 0 0))) .done) false 9 [1,2,3],
 .reg (qL 1 (.box 29 (qt 0)) (qL 2 (.alloc 23 [(32,(.int .u8 0))]) .done)) false 10 [1,2]
 ]
theorem c19_ok:qF 19=qR 21 11 c19:=by kernel_rfl
def c20:qN:=[
 .ret [.t 4],
 .ret [.t 4],
 .reg (qQ 5 (.mov (qt 0)) (qQ 6 (.b2s (qt 5)) (qQ 7 (.mov (qt 1)) (qQ 8 (.b2s (qt 7)) (qQ 9 (.bin .eql (qt 6) (qt 8)) (qQ 4 (.mov (qt 9)) .done)))))) false 1 [4],
 .reg (qQ 4 (.mov (.const (.bool false))) .done) false 2 [0,1]
 ]
theorem c20_ok:qF 20=qR 10 3 c20:=by kernel_rfl
def c21:qN:=[
 .ret [.t 2],
 .ret [.t 2],
 .reg (qQ 29 (.mov (qt 3)) (qQ 30 (.fadr 67 (qt 1)) (qQ 31 (.ld1 (qt 30)) (qQ 32 (.cvi .u64 (qt 31)) (qL 33 (.call 59 [qt 32,qk 4]) (qL 34 (.app 5 1 1 [(1,(.int .u8 0))] (qt 29) (qt 33)) (qQ 2 (.mov (qt 34)) .done))))))) false 1 [2],
 .reg (qQ 23 (.mov (qt 3)) (qQ 24 (.fadr 66 (qt 1)) (qQ 25 (.ld1 (qt 24)) (qQ 26 (.cvi .u64 (qt 25)) (qL 27 (.call 59 [qt 26,qk 4]) (qL 28 (.app 5 1 1 [(1,(.int .u8 0))] (qt 23) (qt 27)) (qQ 3 (.mov (qt 28)) .done))))))) false 2 [1,3],
 .reg (qQ 17 (.mov (qt 3)) (qQ 18 (.fadr 65 (qt 1)) (qQ 19 (.ld1 (qt 18)) (qQ 20 (.cvi .u64 (qt 19)) (qL 21 (.call 59 [qt 20,qk 4]) (qL 22 (.app 5 1 1 [(1,(.int .u8 0))] (qt 17) (qt 21)) (qQ 3 (.mov (qt 22)) .done))))))) false 3 [1,3],
 .reg (qQ 13 (.mov (qt 3)) (qQ 14 (.fadr 33 (qt 1)) (qQ 15 (.slcA 32 1 (qt 14) none none) (qL 16 (.app 5 1 1 [(1,(.int .u8 0))] (qt 13) (qt 15)) (qQ 3 (.mov (qt 16)) .done))))) false 4 [1,3],
 .reg (qQ 9 (.mov (qt 3)) (qQ 10 (.fadr 1 (qt 1)) (qQ 11 (.slcA 32 1 (qt 10) none none) (qL 12 (.app 5 1 1 [(1,(.int .u8 0))] (qt 9) (qt 11)) (qQ 3 (.mov (qt 12)) .done))))) false 5 [1,3],
 .reg (qQ 4 (.fadr 0 (qt 1)) (qQ 5 (.ld1 (qt 4)) (qQ 6 (.cvi .u32 (qt 5)) (qQ 7 (.cvi .u64 (qt 6)) (qL 8 (.call 59 [qt 7,qk 4]) (qQ 3 (.mov (qt 8)) .done)))))) false 6 [1,3],
 .reg (qL 1 (.box 26 (qt 0)) (qQ 2 (.mov (.const (.slice none 0 0))) .done)) false 7 [1]
 ]
theorem c21_ok:qF 21=qR 35 8 c21:=by kernel_rfl
def c22:qN:=[
 .ret [.cN 2 4],
 .ret [.cN 2 4],
 .reg (qQ 66 (.ldN 4 (qt 3)) (.l none none (.stN 4 (qt 2) (qt 66)) [] .done)) false 1 [2],
 .jmp 7,
 .reg (qQ 45 (.mov (qt 6)) (qQ 46 (.bin .add (qt 45) (qk 1)) (qQ 6 (.mov (qt 46)) .done))) false 3 [1,2,3,6],
 .reg (qQ 47 (.fadr 2 (qt 3)) (qQ 48 (.ld1 (qt 47)) (qQ 49 (.fadr 2 (qt 1)) (qQ 50 (.ld1 (qt 49)) (qQ 51 (.mov (qt 6)) (qQ 52 (.iadrS 2 (qt 50) (qt 51)) (qQ 53 (.fadr 0 (qt 52)) (qQ 54 (.ld1 (qt 53)) (qQ 55 (.fadr 2 (qt 1)) (qQ 56 (.ld1 (qt 55)) (qQ 57 (.mov (qt 6)) (qQ 58 (.iadrS 2 (qt 56) (qt 57)) (qQ 59 (.fadr 1 (qt 58)) (qQ 60 (.ld1 (qt 59)) (.l (some 61) none (.call 60 [qt 60]) [⟨54,none,(.ld1 (qt 53))⟩,⟨50,none,(.ld1 (qt 49))⟩,⟨48,none,(.ld1 (qt 47))⟩] (qQ 62 (.bld [.x 1 (qt 54),.x 1 (qt 61)]) (.l (some 63) none (.bldS 63 2 [qt 62]) [⟨48,none,(.ld1 (qt 47))⟩] (qL 64 (.app 63 2 32 [(1,(.int .i64 0)),(1,(.slice none 0 0))] (qt 48) (qt 63)) (qQ 65 (.fadr 2 (qt 3)) (.l none none (.st1 (qt 65) (qt 64)) [] .done)))))))))))))))))))) true 4 [1,2,3,6],
 .cnd (qt 44) 5 2,
 .reg (qQ 40 (.mov (qt 6)) (qQ 41 (.fadr 2 (qt 1)) (qQ 42 (.ld1 (qt 41)) (qQ 43 (.len (qt 42)) (qQ 44 (.bin .lss (qt 40) (qt 43)) .done))))) false 6 [1,2,3,6,44],
 .reg (qQ 6 (.mov (qk 0)) .done) false 7 [1,2,3,6],
 .jmp 14,
 .reg (qQ 17 (.mov (qt 4)) (qQ 18 (.bin .add (qt 17) (qk 1)) (qQ 4 (.mov (qt 18)) .done))) false 9 [1,2,3,4],
 .reg (qQ 24 (.fadr 1 (qt 3)) (qQ 25 (.ld1 (qt 24)) (qQ 26 (.fadr 0 (qt 5)) (qQ 27 (.ldN 33 (qt 26)) (qQ 28 (.fadr 33 (qt 5)) (qQ 29 (.ld1 (qt 28)) (qQ 31 (.fadr 34 (qt 5)) (qQ 32 (.ld1 (qt 31)) (qQ 33 (.fadr 35 (qt 5)) (qQ 34 (.ld1 (qt 33)) (.l (some 30) none (.call 60 [qt 29]) [⟨34,none,(.ld1 (qt 33))⟩,⟨32,none,(.ld1 (qt 31))⟩,⟨27,none,(.ldN 33 (qt 26))⟩,⟨25,none,(.ld1 (qt 24))⟩] (.l (some 35) none (.call 61 [qt 34]) [⟨32,none,(.ld1 (qt 31))⟩,⟨27,none,(.ldN 33 (qt 26))⟩,⟨25,none,(.ld1 (qt 24))⟩] (qQ 36 (.bld [.x 33 (qt 27),.x 1 (qt 30),.x 1 (qt 32),.x 1 (qt 35)]) (.l (some 37) none (.bldS 61 36 [qt 36]) [⟨25,none,(.ld1 (qt 24))⟩] (qL 38 (.app 61 36 96 [(32,(.int .u8 0)),(1,(.int .u32 0)),(1,(.slice none 0 0)),(1,(.int .u32 0)),(1,(.slice none 0 0))] (qt 25) (qt 37)) (qQ 39 (.fadr 1 (qt 3)) (.l none none (.st1 (qt 39) (qt 38)) [] .done))))))))))))))))) true 10 [1,2,3,4],
 .reg (qQ 19 (.fadr 1 (qt 1)) (qQ 20 (.ld1 (qt 19)) (qQ 21 (.mov (qt 4)) (qQ 22 (.iadrS 36 (qt 20) (qt 21)) (qQ 23 (.ldN 36 (qt 22)) (qL 5 (.alloc 61 [(32,(.int .u8 0)),(1,(.int .u32 0)),(1,(.slice none 0 0)),(1,(.int .u32 0)),(1,(.slice none 0 0))]) (.l none none (.stN 36 (qt 5) (qt 23)) [] .done))))))) false 11 [1,2,3,4,5],
 .cnd (qt 16) 12 8,
 .reg (qQ 12 (.mov (qt 4)) (qQ 13 (.fadr 1 (qt 1)) (qQ 14 (.ld1 (qt 13)) (qQ 15 (.len (qt 14)) (qQ 16 (.bin .lss (qt 12) (qt 15)) .done))))) false 13 [1,2,3,4,16],
 .reg (qQ 4 (.mov (qk 0)) .done) false 14 [1,2,3,4],
 .reg (qQ 7 (.fadr 0 (qt 1)) (qQ 8 (.ld1 (qt 7)) (qQ 9 (.fadr 3 (qt 1)) (qQ 10 (.ld1 (qt 9)) (qQ 11 (.bld [.x 1 (qt 8),.z [(2,(.slice none 0 0))],.x 1 (qt 10)]) (qL 3 (.alloc 33 [(1,(.int .i32 0)),(2,(.slice none 0 0)),(1,(.int .u32 0))]) (.l none none (.stN 4 (qt 3) (qt 11)) [] .done))))))) false 15 [1,2,3],
 .reg (qL 1 (.box 33 (qt 0)) (qL 2 (.alloc 33 [(1,(.int .i32 0)),(2,(.slice none 0 0)),(1,(.int .u32 0))]) .done)) false 16 [1,2]
 ]
theorem c22_ok:qF 22=qR 67 17 c22:=by kernel_rfl
def c23:qN:=[
 .ret [.cN 2 32,.t 3],
 .ret [.cN 2 32,.t 3],
 .reg (qQ 59 (.ldN 32 (qt 4)) (.l none none (.stN 32 (qt 2) (qt 59)) [] (qQ 3 (.mov (.const (.bool true))) .done))) false 1 [2,3],
 .ret [.cN 2 32,.t 3],
 .reg (qQ 58 (.bld [.z [(32,(.int .u8 0))]]) (.l none none (.stN 32 (qt 2) (qt 58)) [] (qQ 3 (.mov (.const (.bool false))) .done))) false 3 [2,3],
 .cnd (qt 57) 4 2,
 .reg (qQ 50 (.ldN 32 (qt 4)) (qQ 51 (.bld [.z [(32,(.int .u8 0))]]) (qQ 52 (.eqA false [(32,.i .u8)] (qt 50) (qt 51)) (qQ 53 (.mov (qt 52)) (.q (some 55) (some (53,false)) (.ldN 32 (qt 4)) (.l (some 54) (some (53,false)) (.call 62 []) [⟨55,(some (53,false)),(.ldN 32 (qt 4))⟩] (.l (some 56) (some (53,false)) (.call 25 [qt 54,qt 55]) [] (qQ 57 (.pick (qt 53) (.const (.bool true)) (qt 56)) .done)))))))) true 5 [2,4,57],
 .jmp 20,
 .reg (qQ 26 (.mov (qt 7)) (qQ 27 (.bin .add (qt 26) (qk 1)) (qQ 7 (.mov (qt 27)) .done))) false 7 [2,4,5,6,7],
 .reg (qQ 47 (.mov (qt 8)) (qQ 48 (.mov (qt 9)) (qQ 49 (.iadrA 32 1 (qt 4) (qt 47)) (.l none none (.st1 (qt 49) (qt 48)) [] .done)))) false 8 [2,4,5,6,7],
 .cnd (qt 46) 9 8,
 .reg (qQ 45 (.mov (qt 8)) (qQ 46 (.bin .geq (qt 45) (qk 0)) .done)) false 10 [2,4,5,6,7,8,9,46],
 .ret [.cN 2 32,.t 3],
 .reg (qQ 44 (.bld [.z [(32,(.int .u8 0))]]) (.l none none (.stN 32 (qt 2) (qt 44)) [] (qQ 3 (.mov (.const (.bool false))) .done))) false 12 [2,3],
 .cnd (qt 43) 13 11,
 .reg (qQ 38 (.mov (qt 9)) (qQ 39 (.bin .neq (qt 38) (.const (.int .u8 0))) (qQ 40 (.mov (qt 39)) (.q (some 41) (some (40,true)) (.mov (qt 8)) (.q (some 42) (some (40,true)) (.bin .lss (qt 41) (qk 0)) (qQ 43 (.pick (qt 40) (qt 42) (.const (.bool false))) .done)))))) false 14 [2,4,5,6,7,8,9,43],
 .reg (qQ 36 (.mov (qt 6)) (qQ 37 (.bin .quo (qt 36) (.const (.int .u32 256))) (qQ 6 (.mov (qt 37)) .done))) false 15 [2,4,5,6,7,8,9],
 .reg (qQ 33 (.mov (qt 6)) (qQ 34 (.bin .rem (qt 33) (.const (.int .u32 256))) (qQ 35 (.cvi .u8 (qt 34)) (qQ 9 (.mov (qt 35)) .done)))) false 16 [2,4,5,6,7,8,9],
 .reg (qQ 28 (.mov (qt 5)) (qQ 29 (.bin .sub (qt 28) (qk 3)) (qQ 30 (.bin .sub (qk 31) (qt 29)) (qQ 31 (.mov (qt 7)) (qQ 32 (.bin .sub (qt 30) (qt 31)) (qQ 8 (.mov (qt 32)) .done)))))) false 17 [2,4,5,6,7,8],
 .cnd (qt 25) 18 6,
 .reg (qQ 24 (.mov (qt 7)) (qQ 25 (.bin .lss (qt 24) (qk 3)) .done)) false 19 [2,4,5,6,7,25],
 .reg (qQ 7 (.mov (qk 0)) .done) false 20 [2,4,5,6,7],
 .jmp 26,
 .reg (qQ 22 (.mov (qt 5)) (qQ 23 (.bin .add (qt 22) (qk 1)) (qQ 5 (.mov (qt 23)) .done))) false 22 [2,4,5,6],
 .reg (qQ 20 (.mov (qt 6)) (qQ 21 (.bin .quo (qt 20) (.const (.int .u32 256))) (qQ 6 (.mov (qt 21)) .done))) false 23 [2,4,5,6],
 .cnd (qt 19) 24 21,
 .reg (qQ 18 (.mov (qt 5)) (qQ 19 (.bin .lss (qt 18) (qk 3)) .done)) false 25 [2,4,5,6,19],
 .ret [.cN 2 32,.t 3],
 .reg (qQ 17 (.ldN 32 (qt 4)) (.l none none (.stN 32 (qt 2) (qt 17)) [] (qQ 3 (.mov (.const (.bool false))) .done))) false 27 [2,3],
 .cnd (qt 16) 28 26,
 .reg (qQ 15 (.mov (qt 6)) (qQ 16 (.bin .geq (qt 15) (.const (.int .u32 8388608))) .done)) false 29 [2,4,5,6,16],
 .reg (qQ 13 (.mov (qt 0)) (qQ 14 (.bin .rem (qt 13) (.const (.int .u32 16777216))) (qQ 6 (.mov (qt 14)) .done))) false 30 [2,4,5,6],
 .reg (qQ 10 (.mov (qt 0)) (qQ 11 (.bin .quo (qt 10) (.const (.int .u32 16777216))) (qQ 12 (.cvi .i64 (qt 11)) (qQ 5 (.mov (qt 12)) .done)))) false 31 [0,2,4,5],
 .reg (qL 4 (.alloc 22 [(32,(.int .u8 0))]) .done) false 32 [0,2,4],
 .reg (qL 2 (.alloc 22 [(32,(.int .u8 0))]) (qQ 3 (.mov (.const (.bool false))) .done)) false 33 [0,2]
 ]
theorem c23_ok:qF 23=qR 60 34 c23:=by kernel_rfl
def c24:qN:=[
 .ret [.cN 2 32],
 .ret [.cN 2 32],
 .reg (qQ 3 (.ldN 68 (qt 1)) (qL 4 (.call 21 [qt 3]) (qL 5 (.call 63 [qt 4]) (.l none none (.stN 32 (qt 2) (qt 5)) [] .done)))) false 1 [2],
 .reg (qL 1 (.box 26 (qt 0)) (qL 2 (.alloc 22 [(32,(.int .u8 0))]) .done)) false 2 [1,2]
 ]
theorem c24_ok:qF 24=qR 6 3 c24:=by kernel_rfl
def c25:qN:=[
 .ret [.t 4],
 .ret [.t 4],
 .reg (qQ 4 (.mov (.const (.bool false))) .done) false 1 [4],
 .jmp 10,
 .reg (qQ 8 (.mov (qt 5)) (qQ 9 (.bin .add (qt 8) (qk 1)) (qQ 5 (.mov (qt 9)) .done))) false 3 [2,3,5],
 .ret [.t 4],
 .reg (qQ 17 (.mov (qt 5)) (qQ 18 (.iadrA 32 1 (qt 2) (qt 17)) (qQ 19 (.ld1 (qt 18)) (qQ 20 (.mov (qt 5)) (qQ 21 (.iadrA 32 1 (qt 3) (qt 20)) (qQ 22 (.ld1 (qt 21)) (qQ 23 (.bin .lss (qt 19) (qt 22)) (qQ 4 (.mov (qt 23)) .done)))))))) true 5 [4],
 .cnd (qt 16) 6 4,
 .reg (qQ 10 (.mov (qt 5)) (qQ 11 (.iadrA 32 1 (qt 2) (qt 10)) (qQ 12 (.ld1 (qt 11)) (qQ 13 (.mov (qt 5)) (qQ 14 (.iadrA 32 1 (qt 3) (qt 13)) (qQ 15 (.ld1 (qt 14)) (qQ 16 (.bin .neq (qt 12) (qt 15)) .done))))))) true 7 [2,3,5,16],
 .cnd (qt 7) 8 2,
 .reg (qQ 6 (.mov (qt 5)) (qQ 7 (.bin .lss (qt 6) (qk 32)) .done)) false 9 [2,3,5,7],
 .reg (qQ 5 (.mov (qk 0)) .done) false 10 [2,3,5],
 .reg (qL 2 (.box 22 (qt 0)) (qL 3 (.box 22 (qt 1)) (qQ 4 (.mov (.const (.bool false))) .done))) false 11 [2,3]
 ]
theorem c25_ok:qF 25=qR 24 12 c25:=by kernel_rfl
def c26:qN:=[
 .ret [.t 2],
 .ret [.t 2],
 .reg (qQ 16 (.mov (qt 4)) (qQ 17 (.bin .eql (qt 16) (qk 0)) (qQ 18 (.mov (qt 17)) (.q (some 19) (some (18,true)) (.ldN 32 (qt 5)) (.q (some 20) (some (18,true)) (.ldN 32 (qt 3)) (.l (some 21) (some (18,true)) (.call 66 [qt 19,qt 20]) [] (.q (some 22) (some (18,true)) (.bin .leq (qt 21) (qk 0)) (qQ 23 (.pick (qt 18) (qt 22) (.const (.bool false))) (qQ 2 (.mov (qt 23)) .done))))))))) false 1 [2],
 .reg (qQ 14 (.slcA 32 1 (qt 5) none none) (qL 15 (.call 65 [qt 14]) .done)) false 2 [3,4,5],
 .reg (qQ 12 (.ldN 68 (qt 1)) (qL 13 (.call 8 [qt 12]) (qL 5 (.alloc 23 [(32,(.int .u8 0))]) (.l none none (.stN 32 (qt 5) (qt 13)) [] .done)))) false 3 [3,4,5],
 .reg (qQ 7 (.fadr 66 (qt 1)) (qQ 8 (.ld1 (qt 7)) (qL 9 (.call 64 [qt 8]) (qQ 6 (.mov (qt 9)) (qQ 10 (.ext 0 (qt 6)) (qQ 11 (.ext 1 (qt 6)) (qL 3 (.alloc 112 [(32,(.int .u8 0))]) (.l none none (.stN 32 (qt 3) (qt 10)) [] (qQ 4 (.mov (qt 11)) .done))))))))) false 4 [1,3,4],
 .reg (qL 1 (.box 26 (qt 0)) (qQ 2 (.mov (.const (.bool false))) .done)) false 5 [1]
 ]
theorem c26_ok:qF 26=qR 24 6 c26:=by kernel_rfl
def c27:qN:=[
 .ret [.cN 2 32],
 .ret [.cN 2 32],
 .reg (qQ 3 (.ldN 4 (qt 1)) (qL 4 (.call 15 [qt 3,(.const (.bool false))]) (qL 5 (.call 9 [qt 4]) (.l none none (.stN 32 (qt 2) (qt 5)) [] .done)))) false 1 [2],
 .reg (qL 1 (.box 33 (qt 0)) (qL 2 (.alloc 23 [(32,(.int .u8 0))]) .done)) false 2 [1,2]
 ]
theorem c27_ok:qF 27=qR 6 3 c27:=by kernel_rfl
def c28:qN:=[
 .ret [.t 2],
 .ret [.t 2],
 .reg (qQ 3 (.fadr 1 (qt 1)) (qQ 4 (.ld1 (qt 3)) (qQ 5 (.len (qt 4)) (qQ 6 (.bin .eql (qt 5) (qk 1)) (qQ 7 (.mov (qt 6)) (.q (some 8) (some (7,true)) (.fadr 1 (qt 1)) (.q (some 9) (some (7,true)) (.ld1 (qt 8)) (.q (some 10) (some (7,true)) (.iadrS 36 (qt 9) (qk 0)) (.q (some 11) (some (7,true)) (.fadr 0 (qt 10)) (.q (some 12) (some (7,true)) (.ldN 33 (qt 11)) (.l (some 13) (some (7,true)) (.call 67 [qt 12]) [] (qQ 14 (.pick (qt 7) (qt 13) (.const (.bool false))) (qQ 2 (.mov (qt 14)) .done))))))))))))) false 1 [2],
 .reg (qL 1 (.box 33 (qt 0)) (qQ 2 (.mov (.const (.bool false))) .done)) false 2 [1]
 ]
theorem c28_ok:qF 28=qR 15 3 c28:=by kernel_rfl
def c29:qN:=[
 .ret [.t 2],
 .ret [.t 2],
 .reg (qQ 30 (.mov (qt 3)) (qQ 2 (.mov (qt 30)) .done)) false 1 [2],
 .jmp 7,
 .reg (qQ 19 (.mov (qt 4)) (qQ 20 (.bin .add (qt 19) (qk 1)) (qQ 4 (.mov (qt 20)) .done))) false 3 [1,3,4],
 .reg (qQ 21 (.mov (qt 3)) (qQ 22 (.fadr 68 (qt 1)) (qQ 23 (.ld1 (qt 22)) (qQ 24 (.mov (qt 4)) (qQ 25 (.iadrS 4 (qt 23) (qt 24)) (qQ 26 (.ldN 4 (qt 25)) (qL 27 (.call 70 [qt 26,(.const (.bool true))]) (qL 28 (.call 69 [qt 27]) (qL 29 (.app 5 1 1 [(1,(.int .u8 0))] (qt 21) (qt 28)) (qQ 3 (.mov (qt 29)) .done)))))))))) false 4 [1,3,4],
 .cnd (qt 18) 5 2,
 .reg (qQ 14 (.mov (qt 4)) (qQ 15 (.fadr 68 (qt 1)) (qQ 16 (.ld1 (qt 15)) (qQ 17 (.len (qt 16)) (qQ 18 (.bin .lss (qt 14) (qt 17)) .done))))) false 6 [1,3,4,18],
 .reg (qQ 4 (.mov (qk 0)) .done) false 7 [1,3,4],
 .reg (qQ 5 (.fadr 0 (qt 1)) (qQ 6 (.ldN 68 (qt 5)) (qQ 8 (.fadr 68 (qt 1)) (qQ 9 (.ld1 (qt 8)) (qQ 10 (.len (qt 9)) (qQ 11 (.cvi .u64 (qt 10)) (.l (some 7) none (.call 21 [qt 6]) [⟨9,none,(.ld1 (qt 8))⟩] (qL 12 (.call 68 [qt 11]) (qL 13 (.app 5 1 1 [(1,(.int .u8 0))] (qt 7) (qt 12)) (qQ 3 (.mov (qt 13)) .done)))))))))) true 8 [1,3],
 .reg (qL 1 (.box 29 (qt 0)) (qQ 2 (.mov (.const (.slice none 0 0))) .done)) false 9 [1]
 ]
theorem c29_ok:qF 29=qR 31 10 c29:=by kernel_rfl
def c30:qN:=[
 .ret [.cN 2 32],
 .ret [.cN 2 32],
 .reg (qQ 22 (.mov (qt 3)) (qL 23 (.call 71 [qt 22]) (.l none none (.stN 32 (qt 2) (qt 23)) [] .done))) false 1 [2],
 .jmp 7,
 .reg (qQ 10 (.mov (qt 4)) (qQ 11 (.bin .add (qt 10) (qk 1)) (qQ 4 (.mov (qt 11)) .done))) false 3 [1,2,3,4],
 .reg (qQ 12 (.mov (qt 3)) (qQ 13 (.fadr 68 (qt 1)) (qQ 14 (.ld1 (qt 13)) (qQ 15 (.mov (qt 4)) (qQ 16 (.iadrS 4 (qt 14) (qt 15)) (qQ 17 (.ldN 4 (qt 16)) (qL 18 (.call 70 [qt 17,(.const (.bool true))]) (qL 19 (.call 63 [qt 18]) (qL 20 (.bldS 22 32 [qt 19]) (qL 21 (.app 22 32 32 [(32,(.int .u8 0))] (qt 12) (qt 20)) (qQ 3 (.mov (qt 21)) .done))))))))))) false 4 [1,2,3,4],
 .cnd (qt 9) 5 2,
 .reg (qQ 5 (.mov (qt 4)) (qQ 6 (.fadr 68 (qt 1)) (qQ 7 (.ld1 (qt 6)) (qQ 8 (.len (qt 7)) (qQ 9 (.bin .lss (qt 5) (qt 8)) .done))))) false 6 [1,2,3,4,9],
 .reg (qQ 4 (.mov (qk 0)) .done) false 7 [1,2,3,4],
 .reg (qQ 3 (.mov (.const (.slice none 0 0))) .done) false 8 [1,2,3],
 .reg (qL 1 (.box 29 (qt 0)) (qL 2 (.alloc 22 [(32,(.int .u8 0))]) .done)) false 9 [1,2]
 ]
theorem c30_ok:qF 30=qR 24 10 c30:=by kernel_rfl
def c31:qN:=[
 .ret [.t 2],
 .ret [.t 2],
 .reg (qQ 2 (.mov (qk 0)) .done) false 1 [2],
 .ret [.t 2],
 .reg (qQ 2 (.mov (qk 7)) .done) false 3 [2],
 .cnd (qt 110) 4 2,
 .reg (qQ 110 (.mov (qt 5)) .done) false 5 [110],
 .ret [.t 2],
 .reg (qQ 2 (.mov (qk 0)) .done) false 7 [2],
 .ret [.t 2],
 .reg (qQ 2 (.mov (qk 3)) .done) false 9 [2],
 .cnd (qt 109) 10 8,
 .reg (qQ 94 (.fadr 1 (qt 1)) (qQ 95 (.ld1 (qt 94)) (qQ 96 (.iadrS 36 (qt 95) (qk 0)) (qQ 97 (.fadr 33 (qt 96)) (qQ 98 (.ld1 (qt 97)) (qQ 99 (.len (qt 98)) (qQ 100 (.bin .lss (qt 99) (qk 2)) (qQ 101 (.mov (qt 100)) (.q (some 102) (some (101,false)) (.fadr 1 (qt 1)) (.q (some 103) (some (101,false)) (.ld1 (qt 102)) (.q (some 104) (some (101,false)) (.iadrS 36 (qt 103) (qk 0)) (.q (some 105) (some (101,false)) (.fadr 33 (qt 104)) (.q (some 106) (some (101,false)) (.ld1 (qt 105)) (.q (some 107) (some (101,false)) (.len (qt 106)) (.q (some 108) (some (101,false)) (.bin .gtr (qt 107) (qk 100)) (qQ 109 (.pick (qt 101) (.const (.bool true)) (qt 108)) .done)))))))))))))))) false 11 [109],
 .cnd (qt 93) 12 6,
 .reg (qQ 92 (.ldN 4 (qt 1)) (qL 93 (.call 28 [qt 92]) .done)) false 13 [1,5,93],
 .jmp 28,
 .reg (qQ 62 (.mov (qt 6)) (qQ 63 (.bin .add (qt 62) (qk 1)) (qQ 6 (.mov (qt 63)) .done))) false 15 [1,5,6],
 .reg (qQ 82 (.mov (qt 5)) (qQ 83 (.mov (qt 82)) (.q (some 84) (some (83,false)) (.fadr 1 (qt 1)) (.q (some 85) (some (83,false)) (.ld1 (qt 84)) (.q (some 86) (some (83,false)) (.mov (qt 6)) (.q (some 87) (some (83,false)) (.iadrS 36 (qt 85) (qt 86)) (.q (some 88) (some (83,false)) (.fadr 0 (qt 87)) (.q (some 89) (some (83,false)) (.ldN 33 (qt 88)) (.l (some 90) (some (83,false)) (.call 67 [qt 89]) [] (qQ 91 (.pick (qt 83) (.const (.bool true)) (qt 90)) (qQ 5 (.mov (qt 91)) .done))))))))))) false 16 [1,5,6],
 .jmp 25,
 .reg (qQ 67 (.mov (qt 7)) (qQ 68 (.bin .add (qt 67) (qk 1)) (qQ 7 (.mov (qt 68)) .done))) false 18 [1,5,6,7],
 .ret [.t 2],
 .reg (qQ 2 (.mov (qk 18)) .done) false 20 [2],
 .cnd (qt 81) 21 19,
 .reg (qQ 69 (.fadr 1 (qt 1)) (qQ 70 (.ld1 (qt 69)) (qQ 71 (.mov (qt 6)) (qQ 72 (.iadrS 36 (qt 70) (qt 71)) (qQ 73 (.fadr 0 (qt 72)) (qQ 74 (.ldN 33 (qt 73)) (qQ 75 (.fadr 1 (qt 1)) (qQ 76 (.ld1 (qt 75)) (qQ 77 (.mov (qt 7)) (qQ 78 (.iadrS 36 (qt 76) (qt 77)) (qQ 79 (.fadr 0 (qt 78)) (qQ 80 (.ldN 33 (qt 79)) (qQ 81 (.eqA false [(32,.i .u8),(1,.i .u32)] (qt 74) (qt 80)) .done))))))))))))) true 22 [1,5,6,7,81],
 .cnd (qt 66) 23 17,
 .reg (qQ 64 (.mov (qt 7)) (qQ 65 (.mov (qt 6)) (qQ 66 (.bin .lss (qt 64) (qt 65)) .done))) false 24 [1,5,6,7,66],
 .reg (qQ 7 (.mov (qk 0)) .done) false 25 [1,5,6,7],
 .cnd (qt 61) 26 14,
 .reg (qQ 57 (.mov (qt 6)) (qQ 58 (.fadr 1 (qt 1)) (qQ 59 (.ld1 (qt 58)) (qQ 60 (.len (qt 59)) (qQ 61 (.bin .lss (qt 57) (qt 60)) .done))))) false 27 [1,5,6,61],
 .reg (qQ 6 (.mov (qk 0)) .done) false 28 [1,5,6],
 .reg (qQ 5 (.mov (.const (.bool false))) .done) false 29 [1,5],
 .jmp 39,
 .reg (qQ 27 (.mov (qt 4)) (qQ 28 (.bin .add (qt 27) (qk 1)) (qQ 4 (.mov (qt 28)) .done))) false 31 [1,3,4],
 .reg (qQ 49 (.mov (qt 3)) (qQ 50 (.fadr 2 (qt 1)) (qQ 51 (.ld1 (qt 50)) (qQ 52 (.mov (qt 4)) (qQ 53 (.iadrS 2 (qt 51) (qt 52)) (qQ 54 (.fadr 0 (qt 53)) (qQ 55 (.ld1 (qt 54)) (qQ 56 (.bin .add (qt 49) (qt 55)) (qQ 3 (.mov (qt 56)) .done))))))))) false 32 [1,3,4],
 .ret [.t 2],
 .reg (qQ 2 (.mov (qk 6)) .done) false 34 [2],
 .cnd (qt 48) 35 33,
 .reg (qQ 29 (.fadr 2 (qt 1)) (qQ 30 (.ld1 (qt 29)) (qQ 31 (.mov (qt 4)) (qQ 32 (.iadrS 2 (qt 30) (qt 31)) (qQ 33 (.fadr 0 (qt 32)) (qQ 34 (.ld1 (qt 33)) (qL 35 (.call 72 [qt 34]) (qQ 36 (.not (qt 35)) (qQ 37 (.mov (qt 36)) (.q (some 38) (some (37,false)) (.mov (qt 3)) (.q (some 39) (some (37,false)) (.fadr 2 (qt 1)) (.q (some 40) (some (37,false)) (.ld1 (qt 39)) (.q (some 41) (some (37,false)) (.mov (qt 4)) (.q (some 42) (some (37,false)) (.iadrS 2 (qt 40) (qt 41)) (.q (some 43) (some (37,false)) (.fadr 0 (qt 42)) (.q (some 44) (some (37,false)) (.ld1 (qt 43)) (.q (some 45) (some (37,false)) (.bin .add (qt 38) (qt 44)) (.l (some 46) (some (37,false)) (.call 72 [qt 45]) [] (.q (some 47) (some (37,false)) (.not (qt 46)) (qQ 48 (.pick (qt 37) (.const (.bool true)) (qt 47)) .done)))))))))))))))))))) false 36 [1,3,4,48],
 .cnd (qt 26) 37 30,
 .reg (qQ 22 (.mov (qt 4)) (qQ 23 (.fadr 2 (qt 1)) (qQ 24 (.ld1 (qt 23)) (qQ 25 (.len (qt 24)) (qQ 26 (.bin .lss (qt 22) (qt 25)) .done))))) false 38 [1,3,4,26],
 .reg (qQ 4 (.mov (qk 0)) .done) false 39 [1,3,4],
 .reg (qQ 3 (.mov (qk 0)) .done) false 40 [1,3],
 .ret [.t 2],
 .reg (qQ 2 (.mov (qk 2)) .done) false 42 [2],
 .cnd (qt 21) 43 41,
 .reg (qQ 18 (.ldN 4 (qt 1)) (qL 19 (.call 70 [qt 18,(.const (.bool false))]) (qQ 20 (.len (qt 19)) (qQ 21 (.bin .gtr (qt 20) (qk 100000)) .done)))) false 44 [1,21],
 .ret [.t 2],
 .reg (qQ 2 (.mov (qk 3)) .done) false 46 [2],
 .cnd (qt 17) 47 45,
 .reg (qQ 8 (.fadr 1 (qt 1)) (qQ 9 (.ld1 (qt 8)) (qQ 10 (.len (qt 9)) (qQ 11 (.bin .eql (qt 10) (qk 0)) (qQ 12 (.mov (qt 11)) (.q (some 13) (some (12,false)) (.fadr 2 (qt 1)) (.q (some 14) (some (12,false)) (.ld1 (qt 13)) (.q (some 15) (some (12,false)) (.len (qt 14)) (.q (some 16) (some (12,false)) (.bin .eql (qt 15) (qk 0)) (qQ 17 (.pick (qt 12) (.const (.bool true)) (qt 16)) .done)))))))))) false 48 [1,17],
 .reg (qL 1 (.box 33 (qt 0)) (qQ 2 (.mov (qk 0)) .done)) false 49 [1]
 ]
theorem c31_ok:qF 31=qR 111 50 c31:=by kernel_rfl
def c32:qN:=[
 .ret [.cN 2 32],
 .ret [.cN 2 32],
 .reg (qQ 3 (.ldN 4 (qt 1)) (qL 4 (.call 70 [qt 3,(.const (.bool false))]) (qL 5 (.call 63 [qt 4]) (.l none none (.stN 32 (qt 2) (qt 5)) [] .done)))) false 1 [2],
 .reg (qL 1 (.box 33 (qt 0)) (qL 2 (.alloc 22 [(32,(.int .u8 0))]) .done)) false 2 [1,2]
 ]
theorem c32_ok:qF 32=qR 6 3 c32:=by kernel_rfl
def c33:qN:=[
 .ret [],
 .jmp 5,
 .reg (qQ 52 (.mov (qt 0)) (qQ 53 (.mov (qt 0)) (qQ 54 (.nc (qt 53)) (qQ 55 (.fadr 8 (qt 54)) (qQ 56 (.ld1 (qt 55)) (qQ 57 (.slcS 1 (qt 56) (some (qk 64)) none) (qQ 58 (.nc (qt 52)) (qQ 59 (.fadr 8 (qt 58)) (.l none none (.st1 (qt 59) (qt 57)) [] .done))))))))) false 1 [0,4],
 .reg (qQ 43 (.mov (qt 0)) (qQ 44 (.nc (qt 43)) (qQ 45 (.fadr 0 (qt 44)) (qQ 46 (.mov (qt 0)) (qQ 47 (.nc (qt 46)) (qQ 48 (.fadr 8 (qt 47)) (qQ 49 (.ld1 (qt 48)) (qQ 50 (.slcS 1 (qt 49) none (some (qk 64))) (qL 51 (.call 75 [qt 45,qt 4,qt 50]) .done))))))))) true 2 [0,4],
 .cnd (qt 42) 3 0,
 .reg (qQ 37 (.mov (qt 0)) (qQ 38 (.nc (qt 37)) (qQ 39 (.fadr 8 (qt 38)) (qQ 40 (.ld1 (qt 39)) (qQ 41 (.len (qt 40)) (qQ 42 (.bin .geq (qt 41) (qk 64)) .done)))))) false 4 [0,4,42],
 .reg (qL 36 (.call 74 []) (qL 4 (.alloc 123 [(64,(.int .u32 0))]) (.l none none (.stN 64 (qt 4) (qt 36)) [] .done))) false 5 [0,4],
 .reg (qQ 27 (.mov (qt 0)) (qQ 28 (.mov (qt 0)) (qQ 29 (.nc (qt 28)) (qQ 30 (.fadr 8 (qt 29)) (qQ 31 (.ld1 (qt 30)) (qQ 32 (.mov (qt 1)) (qL 33 (.app 5 1 1 [(1,(.int .u8 0))] (qt 31) (qt 32)) (qQ 34 (.nc (qt 27)) (qQ 35 (.fadr 8 (qt 34)) (.l none none (.st1 (qt 35) (qt 33)) [] .done)))))))))) false 6 [0],
 .reg (qQ 17 (.mov (qt 0)) (qQ 18 (.nc (qt 17)) (qQ 19 (.fadr 9 (qt 18)) (qQ 20 (.ld1 (qt 19)) (qQ 21 (.mov (qt 1)) (qQ 22 (.len (qt 21)) (qQ 23 (.cvi .u64 (qt 22)) (qQ 24 (.bin .add (qt 20) (qt 23)) (qQ 25 (.nc (qt 17)) (qQ 26 (.fadr 9 (qt 25)) (.l none none (.st1 (qt 26) (qt 24)) [] .done))))))))))) false 7 [0,1],
 .reg (qQ 10 (.mov (qt 0)) (qQ 11 (.mov (qt 0)) (qL 12 (.call 73 []) (qQ 13 (.nc (qt 10)) (qQ 14 (.fadr 0 (qt 13)) (.l none none (.stN 8 (qt 14) (qt 12)) [] (qQ 15 (.nc (qt 11)) (qQ 16 (.fadr 10 (qt 15)) (.l none none (.st1 (qt 16) (.const (.bool true))) [] .done))))))))) false 8 [0,1],
 .cnd (qt 9) 9 8,
 .reg (qQ 5 (.mov (qt 0)) (qQ 6 (.nc (qt 5)) (qQ 7 (.fadr 10 (qt 6)) (qQ 8 (.ld1 (qt 7)) (qQ 9 (.not (qt 8)) .done))))) false 10 [0,1,9]
 ]
theorem c33_ok:qF 33=qR 60 11 c33:=by kernel_rfl
def c34:qN:=[
 .ret [.cN 2 32],
 .ret [.cN 2 32],
 .reg (qQ 6 (.slcA 32 1 (qt 3) none none) (qL 7 (.call 77 [qt 6]) (.l none none (.stN 32 (qt 2) (qt 7)) [] .done))) false 1 [2],
 .reg (qQ 4 (.mov (qt 0)) (qL 5 (.call 76 [qt 4]) (qL 3 (.alloc 23 [(32,(.int .u8 0))]) (.l none none (.stN 32 (qt 3) (qt 5)) [] .done)))) false 2 [2,3],
 .reg (qL 2 (.alloc 23 [(32,(.int .u8 0))]) .done) false 3 [0,2]
 ]
theorem c34_ok:qF 34=qR 8 4 c34:=by kernel_rfl
def c35:qN:=[
 .ret [],
 .reg (qQ 4 (.mov (qt 0)) (qQ 5 (.mov (qt 1)) (qQ 6 (.cvi .u64 (qt 5)) (qL 7 (.call 78 [qt 4,qt 6,qk 4]) .done)))) false 0 []
 ]
theorem c35_ok:qF 35=qR 8 1 c35:=by kernel_rfl
def c36:qN:=[
 .ret [],
 .reg (qQ 4 (.mov (qt 0)) (qQ 5 (.mov (qt 0)) (qQ 6 (.nc (qt 5)) (qQ 7 (.fadr 0 (qt 6)) (qQ 8 (.ld1 (qt 7)) (qQ 9 (.mov (qt 1)) (qL 10 (.app 5 1 1 [(1,(.int .u8 0))] (qt 8) (qt 9)) (qQ 11 (.nc (qt 4)) (qQ 12 (.fadr 0 (qt 11)) (.l none none (.st1 (qt 12) (qt 10)) [] .done)))))))))) false 0 []
 ]
theorem c36_ok:qF 36=qR 13 1 c36:=by kernel_rfl
def c37:qN:=[
 .ret [.t 2],
 .ret [.t 2],
 .reg (qQ 3 (.mov (qt 0)) (qQ 4 (.nc (qt 3)) (qQ 5 (.fadr 0 (qt 4)) (qQ 6 (.ld1 (qt 5)) (qL 7 (.call 79 [qt 6]) (qQ 2 (.mov (qt 7)) .done)))))) false 1 [2],
 .reg (qQ 2 (.mov (.const (.slice none 0 0))) .done) false 2 [0]
 ]
theorem c37_ok:qF 37=qR 8 3 c37:=by kernel_rfl
def c38:qN:=[
 .ret [.t 2],
 .ret [.t 2],
 .reg (qQ 3 (.mov (qt 0)) (qL 4 (.call 79 [qt 3]) (qQ 5 (.bld [.x 1 (qt 4),.z [(1,(.int .i64 0))]]) (qL 6 (.box 130 (qt 5)) (qQ 2 (.mov (qt 6)) .done))))) false 1 [2],
 .reg (qQ 2 (.mov (.const (.pointer none))) .done) false 2 [0]
 ]
theorem c38_ok:qF 38=qR 7 3 c38:=by kernel_rfl
def c39:qN:=[
 .ret [.cN 2 68],
 .ret [.cN 2 68],
 .reg (qQ 27 (.ldN 68 (qt 3)) (.l none none (.stN 68 (qt 2) (qt 27)) [] .done)) false 1 [2],
 .reg (qQ 24 (.mov (qt 0)) (qL 25 (.call 80 [qt 24]) (qQ 26 (.fadr 67 (qt 3)) (.l none none (.st1 (qt 26) (qt 25)) [] .done)))) false 2 [2,3],
 .reg (qQ 21 (.mov (qt 0)) (qL 22 (.call 80 [qt 21]) (qQ 23 (.fadr 66 (qt 3)) (.l none none (.st1 (qt 23) (qt 22)) [] .done)))) false 3 [0,2,3],
 .reg (qQ 18 (.mov (qt 0)) (qL 19 (.call 80 [qt 18]) (qQ 20 (.fadr 65 (qt 3)) (.l none none (.st1 (qt 20) (qt 19)) [] .done)))) false 4 [0,2,3],
 .reg (qQ 13 (.fadr 33 (qt 3)) (qQ 14 (.slcA 32 1 (qt 13) none none) (qQ 15 (.mov (qt 0)) (qL 16 (.call 81 [qt 15,qk 32]) (qL 17 (.cpy 1 (qt 14) (qt 16)) .done))))) true 5 [0,2,3],
 .reg (qQ 8 (.fadr 1 (qt 3)) (qQ 9 (.slcA 32 1 (qt 8) none none) (qQ 10 (.mov (qt 0)) (qL 11 (.call 81 [qt 10,qk 32]) (qL 12 (.cpy 1 (qt 9) (qt 11)) .done))))) true 6 [0,2,3],
 .reg (qQ 4 (.mov (qt 0)) (qL 5 (.call 80 [qt 4]) (qQ 6 (.cvi .i32 (qt 5)) (qQ 7 (.bld [.x 1 (qt 6),.z [(64,(.int .u8 0)),(3,(.int .u32 0))]]) (qL 3 (.alloc 26 [(1,(.int .i32 0)),(64,(.int .u8 0)),(3,(.int .u32 0))]) (.l none none (.stN 68 (qt 3) (qt 7)) [] .done)))))) false 7 [0,2,3],
 .reg (qL 2 (.alloc 26 [(1,(.int .i32 0)),(64,(.int .u8 0)),(3,(.int .u32 0))]) .done) false 8 [0,2]
 ]
theorem c39_ok:qF 39=qR 28 9 c39:=by kernel_rfl
def c40:qN:=[
 .ret [.t 2],
 .ret [.t 2],
 .reg (qQ 3 (.mov (qt 0)) (qL 4 (.call 82 [qt 3,(.func 83)]) (qQ 2 (.mov (qt 4)) .done))) false 1 [2],
 .reg (qQ 2 (.mov (.const (.int .u64 0))) .done) false 2 [0]
 ]
theorem c40_ok:qF 40=qR 5 3 c40:=by kernel_rfl
def c41:qN:=[
 .ret [.t 4],
 .ret [.t 4],
 .reg (qQ 5 (.mov (qt 0)) (qQ 6 (.mkF 85 [] [qt 3]) (qL 7 (.call 84 [qt 5,qt 6]) (qQ 4 (.mov (qt 7)) .done)))) false 1 [4],
 .reg (qL 3 (.box 3 (qt 1)) (qQ 4 (.mov (.const (.slice none 0 0))) .done)) false 2 [0,3]
 ]
theorem c41_ok:qF 41=qR 8 3 c41:=by kernel_rfl
def c42:qN:=[
 .ret [.t 2],
 .ret [.t 2],
 .reg (qQ 3 (.mov (qt 0)) (qQ 4 (.nc (qt 3)) (qQ 5 (.fadr 1 (qt 4)) (qQ 6 (.ld1 (qt 5)) (qQ 2 (.mov (qt 6)) .done))))) false 1 [2],
 .reg (qQ 2 (.mov (qk 0)) .done) false 2 [0]
 ]
theorem c42_ok:qF 42=qR 7 3 c42:=by kernel_rfl
def c43:qN:=[
 .ret [.t 2],
 .ret [.t 2],
 .reg (qQ 16 (.mov (qt 0)) (qQ 17 (.nc (qt 16)) (qQ 18 (.fadr 1 (qt 17)) (qQ 19 (.ld1 (qt 18)) (qQ 2 (.mov (qt 19)) .done))))) false 1 [2],
 .ret [.t 2],
 .reg (qQ 2 (.mov (qk 3)) .done) false 3 [2],
 .cnd (qt 15) 4 2,
 .reg (qQ 3 (.mov (qt 0)) (qQ 4 (.nc (qt 3)) (qQ 5 (.fadr 1 (qt 4)) (qQ 6 (.ld1 (qt 5)) (qQ 7 (.bin .eql (qt 6) (qk 0)) (qQ 8 (.mov (qt 7)) (.q (some 9) (some (8,true)) (.mov (qt 0)) (.q (some 10) (some (8,true)) (.nc (qt 9)) (.q (some 11) (some (8,true)) (.fadr 0 (qt 10)) (.q (some 12) (some (8,true)) (.ld1 (qt 11)) (.q (some 13) (some (8,true)) (.len (qt 12)) (.q (some 14) (some (8,true)) (.bin .gtr (qt 13) (qk 0)) (qQ 15 (.pick (qt 8) (qt 14) (.const (.bool false))) .done))))))))))))) false 5 [0,15],
 .reg (qQ 2 (.mov (qk 0)) .done) false 6 [0]
 ]
theorem c43_ok:qF 43=qR 20 7 c43:=by kernel_rfl
def c44:qN:=[
 .ret [],
 .reg (qQ 20 (.mov (qt 0)) (qQ 21 (.mov (qt 1)) (qQ 22 (.cvi .u8 (qt 21)) (qL 23 (.call 88 [qt 20,qt 22]) .done)))) false 0 [],
 .reg (qQ 14 (.mov (qt 0)) (qQ 15 (.mov (qt 1)) (qQ 16 (.mov (qt 4)) (qL 17 (.call 78 [qt 14,qt 15,qt 16]) .done)))) false 0 [],
 .reg (qQ 8 (.mov (qt 0)) (.l (some 9) none .mkM [] (.l none none (.mapU [(1,.i .i64)] false (qt 9) (qk 2) (.const (.int .u8 253))) [] (.l none none (.mapU [(1,.i .i64)] false (qt 9) (qk 4) (.const (.int .u8 254))) [] (.l none none (.mapU [(1,.i .i64)] false (qt 9) (qk 8) (.const (.int .u8 255))) [] (qQ 10 (.mov (qt 9)) (qQ 11 (.mov (qt 4)) (qQ 12 (.lkp [(1,.i .i64)] false false [(1,(.int .u8 0))] false (qt 10) (qt 11)) (qL 13 (.call 88 [qt 8,qt 12]) .done))))))))) false 2 [0,1,4],
 .cnd (qt 18) 1 3,
 .reg (qQ 19 (.bin .eql (qt 7) (qk 0)) (qQ 18 (.mov (qt 19)) .done)) false 4 [0,1,4,18],
 .reg (qQ 7 (.mov (qt 4)) .done) false 5 [0,1,4,7],
 .reg (qQ 5 (.mov (qt 1)) (qL 6 (.call 87 [qt 5]) (qQ 4 (.mov (qt 6)) .done))) false 6 [0,1,4]
 ]
theorem c44_ok:qF 44=qR 24 7 c44:=by kernel_rfl
def c45:qN:=[
 .ret [],
 .reg (qQ 9 (.mov (qt 0)) (qQ 10 (.mov (qt 1)) (qL 11 (.call 36 [qt 9,qt 10]) .done))) false 0 [],
 .reg (qQ 4 (.mov (qt 0)) (qQ 5 (.mov (qt 1)) (qQ 6 (.len (qt 5)) (qQ 7 (.cvi .u64 (qt 6)) (qL 8 (.call 44 [qt 4,qt 7]) .done))))) false 1 [0,1]
 ]
theorem c45_ok:qF 45=qR 12 2 c45:=by kernel_rfl
def c46:qN:=[
 .ret [.t 4],
 .ret [.t 4],
 .reg (qQ 4 (.mov (.const (.bool true))) .done) false 1 [4],
 .jmp 10,
 .reg (qQ 89 (.mov (qt 8)) (qQ 90 (.bin .add (qt 89) (qk 1)) (qQ 8 (.mov (qt 90)) .done))) false 3 [2,3,8],
 .ret [.t 4],
 .reg (qQ 4 (.mov (.const (.bool false))) .done) false 5 [4],
 .cnd (qt 119) 6 4,
 .reg (qQ 91 (.fadr 2 (qt 2)) (qQ 92 (.ld1 (qt 91)) (qQ 93 (.mov (qt 8)) (qQ 94 (.iadrS 2 (qt 92) (qt 93)) (qQ 95 (.fadr 0 (qt 94)) (qQ 96 (.ld1 (qt 95)) (qQ 97 (.fadr 2 (qt 3)) (qQ 98 (.ld1 (qt 97)) (qQ 99 (.mov (qt 8)) (qQ 100 (.iadrS 2 (qt 98) (qt 99)) (qQ 101 (.fadr 0 (qt 100)) (qQ 102 (.ld1 (qt 101)) (qQ 103 (.bin .neq (qt 96) (qt 102)) (qQ 104 (.mov (qt 103)) (.q (some 105) (some (104,false)) (.fadr 2 (qt 2)) (.q (some 106) (some (104,false)) (.ld1 (qt 105)) (.q (some 107) (some (104,false)) (.mov (qt 8)) (.q (some 108) (some (104,false)) (.iadrS 2 (qt 106) (qt 107)) (.q (some 109) (some (104,false)) (.fadr 1 (qt 108)) (.q (some 110) (some (104,false)) (.ld1 (qt 109)) (.q (some 111) (some (104,false)) (.fadr 2 (qt 3)) (.q (some 112) (some (104,false)) (.ld1 (qt 111)) (.q (some 113) (some (104,false)) (.mov (qt 8)) (.q (some 114) (some (104,false)) (.iadrS 2 (qt 112) (qt 113)) (.q (some 115) (some (104,false)) (.fadr 1 (qt 114)) (.q (some 116) (some (104,false)) (.ld1 (qt 115)) (.l (some 117) (some (104,false)) (.call 20 [qt 110,qt 116]) [] (.q (some 118) (some (104,false)) (.not (qt 117)) (qQ 119 (.pick (qt 104) (.const (.bool true)) (qt 118)) .done))))))))))))))))))))))))))))) true 7 [2,3,8,119],
 .cnd (qt 88) 8 2,
 .reg (qQ 84 (.mov (qt 8)) (qQ 85 (.fadr 2 (qt 2)) (qQ 86 (.ld1 (qt 85)) (qQ 87 (.len (qt 86)) (qQ 88 (.bin .lss (qt 84) (qt 87)) .done))))) false 9 [2,3,8,88],
 .reg (qQ 8 (.mov (qk 0)) .done) false 10 [2,3,8],
 .jmp 21,
 .reg (qQ 44 (.mov (qt 5)) (qQ 45 (.bin .add (qt 44) (qk 1)) (qQ 5 (.mov (qt 45)) .done))) false 12 [2,3,5],
 .ret [.t 4],
 .reg (qQ 4 (.mov (.const (.bool false))) .done) false 14 [4],
 .cnd (qt 83) 15 13,
 .reg (qQ 56 (.fadr 0 (qt 6)) (qQ 57 (.ldN 33 (qt 56)) (qQ 58 (.fadr 0 (qt 7)) (qQ 59 (.ldN 33 (qt 58)) (qQ 60 (.eqA true [(32,.i .u8),(1,.i .u32)] (qt 57) (qt 59)) (qQ 61 (.mov (qt 60)) (.q (some 62) (some (61,false)) (.fadr 34 (qt 6)) (.q (some 63) (some (61,false)) (.ld1 (qt 62)) (.q (some 64) (some (61,false)) (.fadr 34 (qt 7)) (.q (some 65) (some (61,false)) (.ld1 (qt 64)) (.q (some 66) (some (61,false)) (.bin .neq (qt 63) (qt 65)) (qQ 67 (.pick (qt 61) (.const (.bool true)) (qt 66)) (qQ 68 (.mov (qt 67)) (.q (some 69) (some (68,false)) (.fadr 33 (qt 6)) (.q (some 70) (some (68,false)) (.ld1 (qt 69)) (.q (some 71) (some (68,false)) (.fadr 33 (qt 7)) (.q (some 72) (some (68,false)) (.ld1 (qt 71)) (.l (some 73) (some (68,false)) (.call 20 [qt 70,qt 72]) [] (.q (some 74) (some (68,false)) (.not (qt 73)) (qQ 75 (.pick (qt 68) (.const (.bool true)) (qt 74)) (qQ 76 (.mov (qt 75)) (.q (some 77) (some (76,false)) (.fadr 35 (qt 6)) (.q (some 78) (some (76,false)) (.ld1 (qt 77)) (.q (some 79) (some (76,false)) (.fadr 35 (qt 7)) (.q (some 80) (some (76,false)) (.ld1 (qt 79)) (.l (some 81) (some (76,false)) (.call 89 [qt 78,qt 80]) [] (.q (some 82) (some (76,false)) (.not (qt 81)) (qQ 83 (.pick (qt 76) (.const (.bool true)) (qt 82)) .done)))))))))))))))))))))))))))) false 16 [2,3,5,83],
 .reg (qQ 51 (.fadr 1 (qt 3)) (qQ 52 (.ld1 (qt 51)) (qQ 53 (.mov (qt 5)) (qQ 54 (.iadrS 36 (qt 52) (qt 53)) (qQ 55 (.ldN 36 (qt 54)) (qL 7 (.alloc 61 [(32,(.int .u8 0)),(1,(.int .u32 0)),(1,(.slice none 0 0)),(1,(.int .u32 0)),(1,(.slice none 0 0))]) (.l none none (.stN 36 (qt 7) (qt 55)) [] .done))))))) false 17 [2,3,5,6,7],
 .reg (qQ 46 (.fadr 1 (qt 2)) (qQ 47 (.ld1 (qt 46)) (qQ 48 (.mov (qt 5)) (qQ 49 (.iadrS 36 (qt 47) (qt 48)) (qQ 50 (.ldN 36 (qt 49)) (qL 6 (.alloc 61 [(32,(.int .u8 0)),(1,(.int .u32 0)),(1,(.slice none 0 0)),(1,(.int .u32 0)),(1,(.slice none 0 0))]) (.l none none (.stN 36 (qt 6) (qt 50)) [] .done))))))) false 18 [2,3,5,6],
 .cnd (qt 43) 19 11,
 .reg (qQ 39 (.mov (qt 5)) (qQ 40 (.fadr 1 (qt 2)) (qQ 41 (.ld1 (qt 40)) (qQ 42 (.len (qt 41)) (qQ 43 (.bin .lss (qt 39) (qt 42)) .done))))) false 20 [2,3,5,43],
 .reg (qQ 5 (.mov (qk 0)) .done) false 21 [2,3,5],
 .ret [.t 4],
 .reg (qQ 4 (.mov (.const (.bool false))) .done) false 23 [4],
 .cnd (qt 38) 24 22,
 .reg (qQ 9 (.fadr 0 (qt 2)) (qQ 10 (.ld1 (qt 9)) (qQ 11 (.fadr 0 (qt 3)) (qQ 12 (.ld1 (qt 11)) (qQ 13 (.bin .neq (qt 10) (qt 12)) (qQ 14 (.mov (qt 13)) (.q (some 15) (some (14,false)) (.fadr 3 (qt 2)) (.q (some 16) (some (14,false)) (.ld1 (qt 15)) (.q (some 17) (some (14,false)) (.fadr 3 (qt 3)) (.q (some 18) (some (14,false)) (.ld1 (qt 17)) (.q (some 19) (some (14,false)) (.bin .neq (qt 16) (qt 18)) (qQ 20 (.pick (qt 14) (.const (.bool true)) (qt 19)) (qQ 21 (.mov (qt 20)) (.q (some 22) (some (21,false)) (.fadr 1 (qt 2)) (.q (some 23) (some (21,false)) (.ld1 (qt 22)) (.q (some 24) (some (21,false)) (.len (qt 23)) (.q (some 25) (some (21,false)) (.fadr 1 (qt 3)) (.q (some 26) (some (21,false)) (.ld1 (qt 25)) (.q (some 27) (some (21,false)) (.len (qt 26)) (.q (some 28) (some (21,false)) (.bin .neq (qt 24) (qt 27)) (qQ 29 (.pick (qt 21) (.const (.bool true)) (qt 28)) (qQ 30 (.mov (qt 29)) (.q (some 31) (some (30,false)) (.fadr 2 (qt 2)) (.q (some 32) (some (30,false)) (.ld1 (qt 31)) (.q (some 33) (some (30,false)) (.len (qt 32)) (.q (some 34) (some (30,false)) (.fadr 2 (qt 3)) (.q (some 35) (some (30,false)) (.ld1 (qt 34)) (.q (some 36) (some (30,false)) (.len (qt 35)) (.q (some 37) (some (30,false)) (.bin .neq (qt 33) (qt 36)) (qQ 38 (.pick (qt 30) (.const (.bool true)) (qt 37)) .done)))))))))))))))))))))))))))))) false 25 [2,3,38],
 .reg (qL 2 (.box 33 (qt 0)) (qL 3 (.box 33 (qt 1)) (qQ 4 (.mov (.const (.bool false))) .done))) false 26 [2,3]
 ]
theorem c46_ok:qF 46=qR 120 27 c46:=by kernel_rfl
def c47:qN:=[
 .ret [],
 .reg (qQ 2 (.mov (qt 5)) .done) false 0 [],
 .reg (qQ 11 (.bld [.z [(1,(.int .i32 0)),(2,(.slice none 0 0)),(1,(.int .u32 0))]]) (qQ 12 (.mov (qt 3)) (.l none none (.stN 4 (qt 0) (qt 11)) [] (.l none none (.st1 (qt 1) (qt 12)) [] .done)))) false 0 [],
 .reg (qQ 3 (.mov (qt 10)) .done) false 2 [0,1,3],
 .reg (qQ 6 (.mov (qt 4)) (.l none none (.pan (qt 6)) [] .done)) false 0 [],
 .reg (qQ 4 (.mov (qt 5)) .done) false 4 [4],
 .cnd (qt 9) 3 5,
 .reg (qQ 8 (.tas 92 .i64 (qt 5)) (qQ 9 (.ext 1 (qt 8)) (qQ 10 (.ext 0 (qt 8)) .done))) false 6 [0,1,5,9,10],
 .cnd (qt 7) 1 7,
 .reg (qQ 7 (.eqI false (qt 5) (.const .nilIface)) .done) false 8 [0,1,5,7],
 .rcv 5 5 9 [0,1,5]
 ]
theorem c47_ok:qF 47=qR 13 10 c47:=by kernel_rfl
def c48:qN:=[
 .ret [.cN 2 4],
 .ret [.cN 2 4],
 .reg (qQ 74 (.ldN 4 (qt 3)) (.l none none (.stN 4 (qt 2) (qt 74)) [] .done)) false 1 [2],
 .reg (qQ 68 (.ldN 1 (qt 1)) (qQ 69 (.fadr 0 (qt 1)) (qQ 70 (.ld1 (qt 69)) (.l (some 71) none (.call 101 [qt 70]) [⟨68,none,(.ldN 1 (qt 1))⟩] (qQ 72 (.bin .gtr (qt 71) (qk 0)) (qL 73 (.call 94 [qt 68,qt 72,qk 3]) .done)))))) true 2 [2,3],
 .reg (qQ 60 (.ldN 1 (qt 1)) (qQ 61 (.mov (qt 5)) (qQ 62 (.mov (qt 61)) (.q (some 63) (some (62,true)) (.ldN 4 (qt 3)) (.l (some 64) (some (62,true)) (.call 49 [qt 63]) [⟨60,none,(.ldN 1 (qt 1))⟩] (.q (some 65) (some (62,true)) (.not (qt 64)) (qQ 66 (.pick (qt 62) (qt 65) (.const (.bool false))) (qL 67 (.call 94 [qt 60,qt 66,qk 3]) .done)))))))) true 3 [1,2,3],
 .reg (qQ 57 (.ldN 1 (qt 1)) (qL 58 (.call 90 [qt 57]) (qQ 59 (.fadr 3 (qt 3)) (.l none none (.st1 (qt 59) (qt 58)) [] .done)))) false 4 [1,2,3,5],
 .jmp 11,
 .reg (qQ 56 (.bin .add (qt 43) (qk 1)) (qQ 43 (.mov (qt 56)) .done)) false 6 [1,2,3,5,42,43],
 .reg (qQ 46 (.fadr 1 (qt 3)) (qQ 47 (.ld1 (qt 46)) (qQ 48 (.mov (qt 7)) (qQ 49 (.ldN 1 (qt 1)) (qQ 51 (.ldN 1 (qt 1)) (qQ 52 (.mkF 100 [qt 51] []) (.l (some 50) none (.call 91 [qt 49]) [⟨51,none,(.ldN 1 (qt 1))⟩,⟨47,none,(.ld1 (qt 46))⟩] (.l (some 53) none (.call 99 [qt 50,qt 52]) [⟨47,none,(.ld1 (qt 46))⟩] (qQ 54 (.iadrS 36 (qt 47) (qt 48)) (qQ 55 (.fadr 35 (qt 54)) (.l none none (.st1 (qt 55) (qt 53)) [] .done))))))))))) true 7 [1,2,3,5,42,43],
 .reg (qQ 45 (.mov (qt 43)) (qQ 7 (.mov (qt 45)) .done)) false 8 [1,2,3,5,7,42,43],
 .cnd (qt 44) 9 5,
 .reg (qQ 44 (.bin .lss (qt 43) (qt 42)) .done) false 10 [1,2,3,5,42,43,44],
 .reg (qQ 40 (.fadr 1 (qt 3)) (qQ 41 (.ld1 (qt 40)) (qQ 42 (.len (qt 41)) (qQ 43 (.mov (qk 0)) .done)))) false 11 [1,2,3,5,42,43],
 .cnd (qt 39) 12 5,
 .reg (qQ 39 (.mov (qt 5)) .done) false 13 [1,2,3,5,39],
 .reg (qQ 33 (.ldN 1 (qt 1)) (qQ 35 (.ldN 1 (qt 1)) (qQ 36 (.mkF 98 [qt 35] []) (.l (some 34) none (.call 91 [qt 33]) [⟨35,none,(.ldN 1 (qt 1))⟩] (qL 37 (.call 97 [qt 34,qt 36]) (qQ 38 (.fadr 2 (qt 3)) (.l none none (.st1 (qt 38) (qt 37)) [] .done))))))) true 14 [1,2,3,5],
 .reg (qQ 28 (.mov (qt 4)) (qQ 29 (.ldN 1 (qt 1)) (qQ 30 (.mkF 96 [qt 29] []) (qL 31 (.call 95 [qt 28,qt 30]) (qQ 32 (.fadr 1 (qt 3)) (.l none none (.st1 (qt 32) (qt 31)) [] .done)))))) false 15 [1,2,3,5],
 .reg (qQ 26 (.ldN 1 (qt 1)) (qL 27 (.call 91 [qt 26]) (qQ 4 (.mov (qt 27)) .done))) false 16 [1,2,3,4,5],
 .reg (qQ 22 (.ldN 1 (qt 1)) (qQ 23 (.mov (qt 6)) (qQ 24 (.bin .neq (qt 23) (.const (.int .u8 1))) (qL 25 (.call 94 [qt 22,qt 24,qk 3]) .done)))) false 17 [1,2,3,5],
 .reg (qQ 20 (.ldN 1 (qt 1)) (qL 21 (.call 93 [qt 20]) .done)) false 18 [1,2,3,5,6],
 .reg (qQ 17 (.fadr 0 (qt 1)) (qQ 18 (.ld1 (qt 17)) (qL 19 (.call 92 [qt 18]) (qQ 6 (.mov (qt 19)) .done)))) false 19 [1,2,3,5,6],
 .cnd (qt 16) 20 16,
 .reg (qQ 16 (.mov (qt 5)) .done) false 21 [1,2,3,4,5,16],
 .reg (qQ 14 (.mov (qt 4)) (qQ 15 (.bin .eql (qt 14) (qk 0)) (qQ 5 (.mov (qt 15)) .done))) false 22 [1,2,3,4,5],
 .reg (qQ 12 (.ldN 1 (qt 1)) (qL 13 (.call 91 [qt 12]) (qQ 4 (.mov (qt 13)) .done))) false 23 [1,2,3,4],
 .reg (qQ 8 (.ldN 1 (qt 1)) (qL 9 (.call 90 [qt 8]) (qQ 10 (.cvi .i32 (qt 9)) (qQ 11 (.bld [.x 1 (qt 10),.z [(2,(.slice none 0 0)),(1,(.int .u32 0))]]) (qL 3 (.alloc 33 [(1,(.int .i32 0)),(2,(.slice none 0 0)),(1,(.int .u32 0))]) (.l none none (.stN 4 (qt 3) (qt 11)) [] .done)))))) false 24 [1,2,3],
 .reg (qL 1 (.box 94 (qt 0)) (qL 2 (.alloc 33 [(1,(.int .i32 0)),(2,(.slice none 0 0)),(1,(.int .u32 0))]) .done)) false 25 [1,2]
 ]
theorem c48_ok:qF 48=qR 75 26 c48:=by kernel_rfl
def c49:qN:=[
 .ret [.t 2],
 .ret [.t 2],
 .reg (qQ 3 (.fadr 1 (qt 1)) (qQ 4 (.ld1 (qt 3)) (qL 5 (.call 102 [qt 4,(.func 103)]) (qQ 2 (.mov (qt 5)) .done)))) false 1 [2],
 .reg (qL 1 (.box 33 (qt 0)) (qQ 2 (.mov (.const (.bool false))) .done)) false 2 [1]
 ]
theorem c49_ok:qF 49=qR 6 3 c49:=by kernel_rfl
def c50:qN:=[
 .ret [],
 .reg (qQ 4 (.mov (qt 0)) (qQ 5 (.mov (qt 1)) (qL 6 (.call 78 [qt 4,qt 5,qk 8]) .done))) false 0 []
 ]
theorem c50_ok:qF 50=qR 7 1 c50:=by kernel_rfl
def c51:qN:=[
 .ret [.t 2,.t 3],
 .ret [.t 2,.t 3],
 .reg (qQ 27 (.mov (qt 4)) (qQ 2 (.mov (qt 27)) (qQ 3 (.mov (qk 0)) .done))) false 1 [2,3],
 .jmp 12,
 .reg (qQ 26 (.bin .add (qt 9) (qk 1)) (qQ 9 (.mov (qt 26)) .done)) false 3 [4,7,8,9],
 .reg (qQ 23 (.mov (qt 4)) (qQ 24 (.mov (qt 6)) (qQ 25 (.bin .add (qt 23) (qt 24)) (qQ 4 (.mov (qt 25)) .done)))) false 4 [4,7,8,9],
 .ret [.t 2,.t 3],
 .reg (qQ 2 (.mov (qk 0)) (qQ 3 (.mov (qk 6)) .done)) false 6 [2,3],
 .cnd (qt 22) 7 5,
 .reg (qQ 13 (.mov (qt 6)) (qL 14 (.call 104 [qt 13]) (qQ 15 (.not (qt 14)) (qQ 16 (.mov (qt 15)) (.q (some 17) (some (16,false)) (.mov (qt 4)) (.q (some 18) (some (16,false)) (.mov (qt 6)) (.q (some 19) (some (16,false)) (.bin .add (qt 17) (qt 18)) (.l (some 20) (some (16,false)) (.call 104 [qt 19]) [] (.q (some 21) (some (16,false)) (.not (qt 20)) (qQ 22 (.pick (qt 16) (.const (.bool true)) (qt 21)) .done)))))))))) false 8 [4,6,7,8,9,22],
 .reg (qQ 11 (.iadrS 1 (qt 7) (qt 9)) (qQ 12 (.ld1 (qt 11)) (qQ 6 (.mov (qt 12)) .done))) false 9 [4,6,7,8,9],
 .cnd (qt 10) 10 2,
 .reg (qQ 10 (.bin .lss (qt 9) (qt 8)) .done) false 11 [4,7,8,9,10],
 .reg (qQ 7 (.mov (qt 0)) (qQ 8 (.len (qt 7)) (qQ 9 (.mov (qk 0)) .done))) false 12 [4,7,8,9],
 .reg (qQ 4 (.mov (qk 0)) .done) false 13 [0,4],
 .reg (qQ 2 (.mov (qk 0)) (qQ 3 (.mov (qk 0)) .done)) false 14 [0]
 ]
theorem c51_ok:qF 51=qR 28 15 c51:=by kernel_rfl
def c52:qN:=[
 .ret [.cN 0 33],
 .ret [.cN 0 33],
 .reg (qQ 1 (.bld [.z [(32,(.int .u8 0))],.x 1 (.const (.int .u32 4294967295))]) (.l none none (.stN 33 (qt 0) (qt 1)) [] .done)) false 1 [0],
 .reg (qL 0 (.alloc 58 [(32,(.int .u8 0)),(1,(.int .u32 0))]) .done) false 2 [0]
 ]
theorem c52_ok:qF 52=qR 2 3 c52:=by kernel_rfl
def c53:qN:=[
 .ret [.t 6],
 .ret [.t 6],
 .reg (qQ 6 (.mov (.const (.bool true))) .done) false 1 [6],
 .jmp 12,
 .reg (qQ 31 (.bin .add (qt 17) (qk 1)) (qQ 17 (.mov (qt 31)) .done)) false 3 [1,2,15,16,17],
 .ret [.t 6],
 .reg (qQ 6 (.mov (.const (.bool false))) .done) false 5 [6],
 .cnd (qt 30) 6 4,
 .reg (qQ 26 (.mov (qt 2)) (qQ 27 (.ldN 36 (qt 8)) (qQ 28 (.ldN 36 (qt 9)) (qL 29 (.callv (qt 26) [qt 27,qt 28]) (qQ 30 (.not (qt 29)) .done))))) false 7 [1,2,15,16,17,30],
 .reg (qQ 22 (.mov (qt 1)) (qQ 23 (.mov (qt 7)) (qQ 24 (.iadrS 36 (qt 22) (qt 23)) (qQ 25 (.ldN 36 (qt 24)) (qL 9 (.alloc 61 [(32,(.int .u8 0)),(1,(.int .u32 0)),(1,(.slice none 0 0)),(1,(.int .u32 0)),(1,(.slice none 0 0))]) (.l none none (.stN 36 (qt 9) (qt 25)) [] .done)))))) false 8 [1,2,8,9,15,16,17],
 .reg (qQ 19 (.mov (qt 17)) (qQ 20 (.iadrS 36 (qt 15) (qt 17)) (qQ 21 (.ldN 36 (qt 20)) (qL 8 (.alloc 61 [(32,(.int .u8 0)),(1,(.int .u32 0)),(1,(.slice none 0 0)),(1,(.int .u32 0)),(1,(.slice none 0 0))]) (qQ 7 (.mov (qt 19)) (.l none none (.stN 36 (qt 8) (qt 21)) [] .done)))))) false 9 [1,2,7,8,15,16,17],
 .cnd (qt 18) 10 2,
 .reg (qQ 18 (.bin .lss (qt 17) (qt 16)) .done) false 11 [1,2,15,16,17,18],
 .reg (qQ 15 (.mov (qt 0)) (qQ 16 (.len (qt 15)) (qQ 17 (.mov (qk 0)) .done))) false 12 [1,2,15,16,17],
 .ret [.t 6],
 .reg (qQ 6 (.mov (.const (.bool false))) .done) false 14 [6],
 .cnd (qt 14) 15 13,
 .reg (qQ 10 (.mov (qt 0)) (qQ 11 (.len (qt 10)) (qQ 12 (.mov (qt 1)) (qQ 13 (.len (qt 12)) (qQ 14 (.bin .neq (qt 11) (qt 13)) .done))))) false 16 [0,1,2,14],
 .reg (qQ 6 (.mov (.const (.bool false))) .done) false 17 [0,1,2]
 ]
theorem c53_ok:qF 53=qR 32 18 c53:=by kernel_rfl
def c54:qN:=[
 .ret [.t 4],
 .ret [.t 4],
 .reg (qQ 5 (.fadr 0 (qt 2)) (qQ 6 (.ldN 33 (qt 5)) (qQ 7 (.fadr 0 (qt 3)) (qQ 8 (.ldN 33 (qt 7)) (qQ 9 (.eqA false [(32,.i .u8),(1,.i .u32)] (qt 6) (qt 8)) (qQ 10 (.mov (qt 9)) (.q (some 11) (some (10,true)) (.fadr 34 (qt 2)) (.q (some 12) (some (10,true)) (.ld1 (qt 11)) (.q (some 13) (some (10,true)) (.fadr 34 (qt 3)) (.q (some 14) (some (10,true)) (.ld1 (qt 13)) (.q (some 15) (some (10,true)) (.bin .eql (qt 12) (qt 14)) (qQ 16 (.pick (qt 10) (qt 15) (.const (.bool false))) (qQ 17 (.mov (qt 16)) (.q (some 18) (some (17,true)) (.fadr 33 (qt 2)) (.q (some 19) (some (17,true)) (.ld1 (qt 18)) (.q (some 20) (some (17,true)) (.fadr 33 (qt 3)) (.q (some 21) (some (17,true)) (.ld1 (qt 20)) (.l (some 22) (some (17,true)) (.call 105 [qt 19,qt 21]) [] (qQ 23 (.pick (qt 17) (qt 22) (.const (.bool false))) (qQ 24 (.mov (qt 23)) (.q (some 25) (some (24,true)) (.fadr 35 (qt 2)) (.q (some 26) (some (24,true)) (.ld1 (qt 25)) (.q (some 27) (some (24,true)) (.fadr 35 (qt 3)) (.q (some 28) (some (24,true)) (.ld1 (qt 27)) (.l (some 29) (some (24,true)) (.call 106 [qt 26,qt 28,(.func 105)]) [] (qQ 30 (.pick (qt 24) (qt 29) (.const (.bool false))) (qQ 4 (.mov (qt 30)) .done))))))))))))))))))))))))))) false 1 [4],
 .reg (qL 2 (.box 61 (qt 0)) (qL 3 (.box 61 (qt 1)) (qQ 4 (.mov (.const (.bool false))) .done))) false 2 [2,3]
 ]
theorem c54_ok:qF 54=qR 31 3 c54:=by kernel_rfl
def c55:qN:=[
 .ret [.t 6],
 .ret [.t 6],
 .reg (qQ 6 (.mov (.const (.bool true))) .done) false 1 [6],
 .jmp 12,
 .reg (qQ 31 (.bin .add (qt 17) (qk 1)) (qQ 17 (.mov (qt 31)) .done)) false 3 [1,2,15,16,17],
 .ret [.t 6],
 .reg (qQ 6 (.mov (.const (.bool false))) .done) false 5 [6],
 .cnd (qt 30) 6 4,
 .reg (qQ 26 (.mov (qt 2)) (qQ 27 (.ldN 2 (qt 8)) (qQ 28 (.ldN 2 (qt 9)) (qL 29 (.callv (qt 26) [qt 27,qt 28]) (qQ 30 (.not (qt 29)) .done))))) false 7 [1,2,15,16,17,30],
 .reg (qQ 22 (.mov (qt 1)) (qQ 23 (.mov (qt 7)) (qQ 24 (.iadrS 2 (qt 22) (qt 23)) (qQ 25 (.ldN 2 (qt 24)) (qL 9 (.alloc 63 [(1,(.int .i64 0)),(1,(.slice none 0 0))]) (.l none none (.stN 2 (qt 9) (qt 25)) [] .done)))))) false 8 [1,2,8,9,15,16,17],
 .reg (qQ 19 (.mov (qt 17)) (qQ 20 (.iadrS 2 (qt 15) (qt 17)) (qQ 21 (.ldN 2 (qt 20)) (qL 8 (.alloc 63 [(1,(.int .i64 0)),(1,(.slice none 0 0))]) (qQ 7 (.mov (qt 19)) (.l none none (.stN 2 (qt 8) (qt 21)) [] .done)))))) false 9 [1,2,7,8,15,16,17],
 .cnd (qt 18) 10 2,
 .reg (qQ 18 (.bin .lss (qt 17) (qt 16)) .done) false 11 [1,2,15,16,17,18],
 .reg (qQ 15 (.mov (qt 0)) (qQ 16 (.len (qt 15)) (qQ 17 (.mov (qk 0)) .done))) false 12 [1,2,15,16,17],
 .ret [.t 6],
 .reg (qQ 6 (.mov (.const (.bool false))) .done) false 14 [6],
 .cnd (qt 14) 15 13,
 .reg (qQ 10 (.mov (qt 0)) (qQ 11 (.len (qt 10)) (qQ 12 (.mov (qt 1)) (qQ 13 (.len (qt 12)) (qQ 14 (.bin .neq (qt 11) (qt 13)) .done))))) false 16 [0,1,2,14],
 .reg (qQ 6 (.mov (.const (.bool false))) .done) false 17 [0,1,2]
 ]
theorem c55_ok:qF 55=qR 32 18 c55:=by kernel_rfl
def c56:qN:=[
 .ret [.t 4],
 .ret [.t 4],
 .reg (qQ 5 (.fadr 0 (qt 2)) (qQ 6 (.ld1 (qt 5)) (qQ 7 (.fadr 0 (qt 3)) (qQ 8 (.ld1 (qt 7)) (qQ 9 (.bin .eql (qt 6) (qt 8)) (qQ 10 (.mov (qt 9)) (.q (some 11) (some (10,true)) (.fadr 1 (qt 2)) (.q (some 12) (some (10,true)) (.ld1 (qt 11)) (.q (some 13) (some (10,true)) (.fadr 1 (qt 3)) (.q (some 14) (some (10,true)) (.ld1 (qt 13)) (.l (some 15) (some (10,true)) (.call 105 [qt 12,qt 14]) [] (qQ 16 (.pick (qt 10) (qt 15) (.const (.bool false))) (qQ 4 (.mov (qt 16)) .done))))))))))))) false 1 [4],
 .reg (qL 2 (.box 63 (qt 0)) (qL 3 (.box 63 (qt 1)) (qQ 4 (.mov (.const (.bool false))) .done))) false 2 [2,3]
 ]
theorem c56_ok:qF 56=qR 17 3 c56:=by kernel_rfl
def c57:qN:=[
 .ret [.cN 2 32],
 .ret [.cN 2 32],
 .reg (qQ 3 (.ldN 4 (qt 1)) (qL 4 (.call 15 [qt 3,(.const (.bool true))]) (qL 5 (.call 9 [qt 4]) (.l none none (.stN 32 (qt 2) (qt 5)) [] .done)))) false 1 [2],
 .reg (qL 1 (.box 33 (qt 0)) (qL 2 (.alloc 23 [(32,(.int .u8 0))]) .done)) false 2 [1,2]
 ]
theorem c57_ok:qF 57=qR 6 3 c57:=by kernel_rfl
def c59:qN:=[
 .ret [.t 4],
 .ret [.t 4],
 .reg (qQ 20 (.mov (qt 5)) (qQ 4 (.mov (qt 20)) .done)) false 1 [4],
 .jmp 8,
 .reg (qQ 10 (.mov (qt 6)) (qQ 11 (.bin .add (qt 10) (qk 1)) (qQ 6 (.mov (qt 11)) .done))) false 3 [0,1,5,6],
 .reg (qQ 18 (.mov (qt 0)) (qQ 19 (.bin .quo (qt 18) (.const (.int .u64 256))) (qQ 0 (.mov (qt 19)) .done))) false 4 [0,1,5,6],
 .reg (qQ 12 (.mov (qt 5)) (qQ 13 (.mov (qt 0)) (qQ 14 (.bin .rem (qt 13) (.const (.int .u64 256))) (qQ 15 (.cvi .u8 (qt 14)) (qL 16 (.bldS 5 1 [qt 15]) (qL 17 (.app 5 1 1 [(1,(.int .u8 0))] (qt 12) (qt 16)) (qQ 5 (.mov (qt 17)) .done))))))) false 5 [0,1,5,6],
 .cnd (qt 9) 6 2,
 .reg (qQ 7 (.mov (qt 6)) (qQ 8 (.mov (qt 1)) (qQ 9 (.bin .lss (qt 7) (qt 8)) .done))) false 7 [0,1,5,6,9],
 .reg (qQ 6 (.mov (qk 0)) .done) false 8 [0,1,5,6],
 .reg (qQ 5 (.mov (.const (.slice none 0 0))) .done) false 9 [0,1,5],
 .reg (qQ 4 (.mov (.const (.slice none 0 0))) .done) false 10 [0,1]
 ]
theorem c59_ok:qF 59=qR 21 11 c59:=by kernel_rfl
def c60:qN:=[
 .ret [.t 2],
 .ret [.t 2],
 .reg (qL 3 (.bldS 5 1 []) (qQ 4 (.mov (qt 0)) (qL 5 (.app 5 1 1 [(1,(.int .u8 0))] (qt 3) (qt 4)) (qQ 2 (.mov (qt 5)) .done)))) false 1 [2],
 .reg (qQ 2 (.mov (.const (.slice none 0 0))) .done) false 2 [0]
 ]
theorem c60_ok:qF 60=qR 6 3 c60:=by kernel_rfl
def c61:qN:=[
 .ret [.t 2],
 .ret [.t 2],
 .reg (qQ 19 (.mov (qt 3)) (qQ 2 (.mov (qt 19)) .done)) false 1 [2],
 .jmp 7,
 .reg (qQ 9 (.mov (qt 4)) (qQ 10 (.bin .add (qt 9) (qk 1)) (qQ 4 (.mov (qt 10)) .done))) false 3 [0,3,4],
 .reg (qQ 11 (.mov (qt 3)) (qQ 12 (.mov (qt 0)) (qQ 13 (.mov (qt 4)) (qQ 14 (.iadrS 1 (qt 12) (qt 13)) (qQ 15 (.ld1 (qt 14)) (qL 16 (.call 60 [qt 15]) (qL 17 (.bldS 41 1 [qt 16]) (qL 18 (.app 41 1 24 [(1,(.slice none 0 0))] (qt 11) (qt 17)) (qQ 3 (.mov (qt 18)) .done))))))))) false 4 [0,3,4],
 .cnd (qt 8) 5 2,
 .reg (qQ 5 (.mov (qt 4)) (qQ 6 (.mov (qt 0)) (qQ 7 (.len (qt 6)) (qQ 8 (.bin .lss (qt 5) (qt 7)) .done)))) false 6 [0,3,4,8],
 .reg (qQ 4 (.mov (qk 0)) .done) false 7 [0,3,4],
 .reg (qQ 3 (.mov (.const (.slice none 0 0))) .done) false 8 [0,3],
 .reg (qQ 2 (.mov (.const (.slice none 0 0))) .done) false 9 [0]
 ]
theorem c61_ok:qF 61=qR 20 10 c61:=by kernel_rfl
def c62:qN:=[
 .ret [.cN 0 32],
 .ret [.cN 0 32],
 .reg (qQ 1 (.bld [.x 1 (.const (.int .u8 127)),.x 1 (.const (.int .u8 255)),.x 1 (.const (.int .u8 255)),.z [(29,(.int .u8 0))]]) (.l none none (.stN 32 (qt 0) (qt 1)) [] .done)) false 1 [0],
 .reg (qL 0 (.alloc 22 [(32,(.int .u8 0))]) .done) false 2 [0]
 ]
theorem c62_ok:qF 62=qR 2 3 c62:=by kernel_rfl
def c63:qN:=[
 .ret [.cN 2 32],
 .ret [.cN 2 32],
 .reg (qQ 6 (.slcA 32 1 (qt 3) none none) (qL 7 (.call 109 [qt 6]) (.l none none (.stN 32 (qt 2) (qt 7)) [] .done))) false 1 [2],
 .reg (qQ 4 (.mov (qt 0)) (qL 5 (.call 109 [qt 4]) (qL 3 (.alloc 22 [(32,(.int .u8 0))]) (.l none none (.stN 32 (qt 3) (qt 5)) [] .done)))) false 2 [2,3],
 .reg (qL 2 (.alloc 22 [(32,(.int .u8 0))]) .done) false 3 [0,2]
 ]
theorem c63_ok:qF 63=qR 8 4 c63:=by kernel_rfl
def c64:qN:=[
 .ret [.cN 2 32,.t 3],
 .ret [.cN 2 32,.t 3],
 .reg (qQ 25 (.ldN 32 (qt 4)) (.l none none (.stN 32 (qt 2) (qt 25)) [] (qQ 3 (.mov (qk 0)) .done))) false 1 [2,3],
 .ret [.cN 2 32,.t 3],
 .reg (qQ 24 (.bld [.z [(32,(.int .u8 0))]]) (.l none none (.stN 32 (qt 2) (qt 24)) [] (qQ 3 (.mov (qk 3)) .done))) false 3 [2,3],
 .cnd (qt 23) 4 2,
 .reg (qQ 11 (.mov (qt 5)) (qQ 12 (.not (qt 11)) (qQ 13 (.mov (qt 12)) (.q (some 14) (some (13,false)) (.ldN 32 (qt 4)) (.q (some 15) (some (13,false)) (.bld [.z [(32,(.int .u8 0))]]) (.q (some 16) (some (13,false)) (.eqA false [(32,.i .u8)] (qt 14) (qt 15)) (qQ 17 (.pick (qt 13) (.const (.bool true)) (qt 16)) (qQ 18 (.mov (qt 17)) (.q (some 19) (some (18,false)) (.ldN 32 (qt 4)) (.l (some 20) (some (18,false)) (.call 111 []) [⟨19,(some (18,false)),(.ldN 32 (qt 4))⟩] (.l (some 21) (some (18,false)) (.call 66 [qt 19,qt 20]) [] (.q (some 22) (some (18,false)) (.bin .gtr (qt 21) (qk 0)) (qQ 23 (.pick (qt 18) (.const (.bool true)) (qt 22)) .done))))))))))))) true 5 [2,4,23],
 .reg (qQ 7 (.mov (qt 0)) (qL 8 (.call 110 [qt 7]) (qQ 6 (.mov (qt 8)) (qQ 9 (.ext 0 (qt 6)) (qQ 10 (.ext 1 (qt 6)) (qL 4 (.alloc 112 [(32,(.int .u8 0))]) (.l none none (.stN 32 (qt 4) (qt 9)) [] (qQ 5 (.mov (qt 10)) .done)))))))) false 6 [2,4,5],
 .reg (qL 2 (.alloc 112 [(32,(.int .u8 0))]) (qQ 3 (.mov (qk 0)) .done)) false 7 [0,2]
 ]
theorem c64_ok:qF 64=qR 26 8 c64:=by kernel_rfl
def c65:qN:=[
 .ret [],
 .jmp 5,
 .reg (qQ 10 (.mov (qt 2)) (qQ 11 (.bin .add (qt 10) (qk 1)) (qQ 12 (.mov (qt 3)) (qQ 13 (.bin .sub (qt 12) (qk 1)) (qQ 2 (.mov (qt 11)) (qQ 3 (.mov (qt 13)) .done)))))) false 1 [0,2,3],
 .reg (qQ 14 (.mov (qt 0)) (qQ 15 (.mov (qt 2)) (qQ 16 (.mov (qt 0)) (qQ 17 (.mov (qt 3)) (qQ 18 (.mov (qt 0)) (qQ 19 (.mov (qt 3)) (qQ 20 (.iadrS 1 (qt 18) (qt 19)) (qQ 21 (.ld1 (qt 20)) (qQ 22 (.mov (qt 0)) (qQ 23 (.mov (qt 2)) (qQ 24 (.iadrS 1 (qt 22) (qt 23)) (qQ 25 (.ld1 (qt 24)) (qQ 26 (.iadrS 1 (qt 14) (qt 15)) (.l none none (.st1 (qt 26) (qt 21)) [] (qQ 27 (.iadrS 1 (qt 16) (qt 17)) (.l none none (.st1 (qt 27) (qt 25)) [] .done)))))))))))))))) true 2 [0,2,3],
 .cnd (qt 9) 3 0,
 .reg (qQ 7 (.mov (qt 2)) (qQ 8 (.mov (qt 3)) (qQ 9 (.bin .lss (qt 7) (qt 8)) .done))) false 4 [0,2,3,9],
 .reg (qQ 4 (.mov (qt 0)) (qQ 5 (.len (qt 4)) (qQ 6 (.bin .sub (qt 5) (qk 1)) (qQ 2 (.mov (qk 0)) (qQ 3 (.mov (qt 6)) .done))))) false 5 [0,2,3]
 ]
theorem c65_ok:qF 65=qR 28 6 c65:=by kernel_rfl
def c66:qN:=[
 .ret [.t 4],
 .ret [.t 4],
 .reg (qQ 5 (.slcA 32 1 (qt 2) none none) (qQ 6 (.slcA 32 1 (qt 3) none none) (qL 7 (.call 112 [qt 5,qt 6]) (qQ 4 (.mov (qt 7)) .done)))) true 1 [4],
 .reg (qL 2 (.box 112 (qt 0)) (qL 3 (.box 112 (qt 1)) (qQ 4 (.mov (qk 0)) .done))) false 2 [2,3]
 ]
theorem c66_ok:qF 66=qR 8 3 c66:=by kernel_rfl
def c67:qN:=[
 .ret [.t 2],
 .ret [.t 2],
 .reg (qQ 3 (.fadr 0 (qt 1)) (qQ 4 (.ldN 32 (qt 3)) (qQ 5 (.bld [.z [(32,(.int .u8 0))]]) (qQ 6 (.eqA false [(32,.i .u8)] (qt 4) (qt 5)) (qQ 7 (.mov (qt 6)) (.q (some 8) (some (7,true)) (.fadr 32 (qt 1)) (.q (some 9) (some (7,true)) (.ld1 (qt 8)) (.q (some 10) (some (7,true)) (.bin .eql (qt 9) (.const (.int .u32 4294967295))) (qQ 11 (.pick (qt 7) (qt 10) (.const (.bool false))) (qQ 2 (.mov (qt 11)) .done)))))))))) false 1 [2],
 .reg (qL 1 (.box 58 (qt 0)) (qQ 2 (.mov (.const (.bool false))) .done)) false 2 [1]
 ]
theorem c67_ok:qF 67=qR 12 3 c67:=by kernel_rfl
def c68:qN:=[
 .ret [.t 2],
 .ret [.t 2],
 .reg (qL 23 (.bldS 5 1 [(.const (.int .u8 255))]) (qQ 24 (.mov (qt 0)) (qL 25 (.call 59 [qt 24,qk 8]) (qL 26 (.app 5 1 1 [(1,(.int .u8 0))] (qt 23) (qt 25)) (qQ 2 (.mov (qt 26)) .done))))) false 1 [2],
 .ret [.t 2],
 .reg (qQ 6 (.mov (qt 0)) (qQ 7 (.cvi .u8 (qt 6)) (qL 8 (.bldS 5 1 [qt 7]) (qQ 2 (.mov (qt 8)) .done)))) false 3 [2],
 .ret [.t 2],
 .reg (qL 12 (.bldS 5 1 [(.const (.int .u8 253))]) (qQ 13 (.mov (qt 0)) (qL 14 (.call 59 [qt 13,qk 2]) (qL 15 (.app 5 1 1 [(1,(.int .u8 0))] (qt 12) (qt 14)) (qQ 2 (.mov (qt 15)) .done))))) false 5 [2],
 .ret [.t 2],
 .reg (qL 19 (.bldS 5 1 [(.const (.int .u8 254))]) (qQ 20 (.mov (qt 0)) (qL 21 (.call 59 [qt 20,qk 4]) (qL 22 (.app 5 1 1 [(1,(.int .u8 0))] (qt 19) (qt 21)) (qQ 2 (.mov (qt 22)) .done))))) false 7 [2],
 .cnd (qt 16) 8 2,
 .reg (qQ 17 (.mov (qt 0)) (qQ 18 (.bin .leq (qt 17) (.const (.int .u64 4294967295))) (qQ 16 (.mov (qt 18)) .done))) false 9 [0,16],
 .cnd (qt 9) 6 10,
 .reg (qQ 10 (.mov (qt 0)) (qQ 11 (.bin .leq (qt 10) (.const (.int .u64 65535))) (qQ 9 (.mov (qt 11)) .done))) false 11 [0,9],
 .cnd (qt 3) 4 12,
 .reg (qQ 4 (.mov (qt 0)) (qQ 5 (.bin .leq (qt 4) (.const (.int .u64 252))) (qQ 3 (.mov (qt 5)) .done))) false 13 [0,3],
 .reg (qQ 2 (.mov (.const (.slice none 0 0))) .done) false 14 [0]
 ]
theorem c68_ok:qF 68=qR 27 15 c68:=by kernel_rfl
def c69:qN:=[
 .ret [.t 2],
 .ret [.t 2],
 .reg (qQ 3 (.mov (qt 0)) (qQ 4 (.len (qt 3)) (qQ 5 (.cvi .u64 (qt 4)) (qL 6 (.call 68 [qt 5]) (qQ 7 (.mov (qt 0)) (qL 8 (.app 5 1 1 [(1,(.int .u8 0))] (qt 6) (qt 7)) (qQ 2 (.mov (qt 8)) .done))))))) false 1 [2],
 .reg (qQ 2 (.mov (.const (.slice none 0 0))) .done) false 2 [0]
 ]
theorem c69_ok:qF 69=qR 9 3 c69:=by kernel_rfl
def c70:qN:=[
 .ret [.t 4],
 .ret [.t 4],
 .reg (qQ 65 (.mov (qt 5)) (qQ 66 (.fadr 3 (qt 2)) (qQ 67 (.ld1 (qt 66)) (qQ 68 (.cvi .u64 (qt 67)) (qL 69 (.call 59 [qt 68,qk 4]) (qL 70 (.app 5 1 1 [(1,(.int .u8 0))] (qt 65) (qt 69)) (qQ 4 (.mov (qt 70)) .done))))))) false 1 [4],
 .jmp 14,
 .reg (qQ 38 (.mov (qt 6)) (qQ 39 (.bin .add (qt 38) (qk 1)) (qQ 6 (.mov (qt 39)) .done))) false 3 [1,2,5,6],
 .jmp 9,
 .reg (qQ 56 (.mov (qt 8)) (qQ 57 (.bin .add (qt 56) (qk 1)) (qQ 8 (.mov (qt 57)) .done))) false 5 [1,2,5,6,7,8],
 .reg (qQ 58 (.mov (qt 5)) (qQ 59 (.mov (qt 7)) (qQ 60 (.mov (qt 8)) (qQ 61 (.iadrS 1 (qt 59) (qt 60)) (qQ 62 (.ld1 (qt 61)) (qL 63 (.call 69 [qt 62]) (qL 64 (.app 5 1 1 [(1,(.int .u8 0))] (qt 58) (qt 63)) (qQ 5 (.mov (qt 64)) .done)))))))) false 6 [1,2,5,6,7,8],
 .cnd (qt 55) 7 4,
 .reg (qQ 52 (.mov (qt 8)) (qQ 53 (.mov (qt 7)) (qQ 54 (.len (qt 53)) (qQ 55 (.bin .lss (qt 52) (qt 54)) .done)))) false 8 [1,2,5,6,7,8,55],
 .reg (qQ 8 (.mov (qk 0)) .done) false 9 [1,2,5,6,7,8],
 .reg (qQ 46 (.mov (qt 5)) (qQ 47 (.mov (qt 7)) (qQ 48 (.len (qt 47)) (qQ 49 (.cvi .u64 (qt 48)) (qL 50 (.call 68 [qt 49]) (qL 51 (.app 5 1 1 [(1,(.int .u8 0))] (qt 46) (qt 50)) (qQ 5 (.mov (qt 51)) .done))))))) false 10 [1,2,5,6,7],
 .reg (qQ 40 (.fadr 1 (qt 2)) (qQ 41 (.ld1 (qt 40)) (qQ 42 (.mov (qt 6)) (qQ 43 (.iadrS 36 (qt 41) (qt 42)) (qQ 44 (.fadr 35 (qt 43)) (qQ 45 (.ld1 (qt 44)) (qQ 7 (.mov (qt 45)) .done))))))) false 11 [1,2,5,6,7],
 .cnd (qt 37) 12 2,
 .reg (qQ 30 (.mov (qt 6)) (qQ 31 (.fadr 1 (qt 2)) (qQ 32 (.ld1 (qt 31)) (qQ 33 (.len (qt 32)) (qQ 34 (.bin .lss (qt 30) (qt 33)) (qQ 35 (.mov (qt 34)) (.q (some 36) (some (35,true)) (.mov (qt 1)) (qQ 37 (.pick (qt 35) (qt 36) (.const (.bool false))) .done)))))))) false 13 [1,2,5,6,37],
 .reg (qQ 6 (.mov (qk 0)) .done) false 14 [1,2,5,6],
 .reg (qQ 23 (.mov (qt 5)) (qQ 24 (.ldN 4 (qt 2)) (qQ 27 (.ldN 4 (qt 2)) (.l (some 25) none (.call 114 [qt 24]) [⟨27,none,(.ldN 4 (qt 2))⟩] (.l (some 26) none (.app 5 1 1 [(1,(.int .u8 0))] (qt 23) (qt 25)) [⟨27,none,(.ldN 4 (qt 2))⟩] (qL 28 (.call 115 [qt 27]) (qL 29 (.app 5 1 1 [(1,(.int .u8 0))] (qt 26) (qt 28)) (qQ 5 (.mov (qt 29)) .done)))))))) true 15 [1,2,5],
 .reg (qQ 20 (.mov (qt 5)) (qL 21 (.bldS 5 1 [(.const (.int .u8 0)),(.const (.int .u8 1))]) (qL 22 (.app 5 1 1 [(1,(.int .u8 0))] (qt 20) (qt 21)) (qQ 5 (.mov (qt 22)) .done)))) false 16 [1,2,5],
 .cnd (qt 19) 17 16,
 .reg (qQ 19 (.mov (qt 1)) .done) false 18 [1,2,5,19],
 .reg (qQ 14 (.mov (qt 1)) (qQ 15 (.mov (qt 14)) (.q (some 16) (some (15,true)) (.ldN 4 (qt 2)) (.l (some 17) (some (15,true)) (.call 113 [qt 16]) [] (qQ 18 (.pick (qt 15) (qt 17) (.const (.bool false))) (qQ 1 (.mov (qt 18)) .done)))))) false 19 [1,2,5],
 .reg (qQ 9 (.fadr 0 (qt 2)) (qQ 10 (.ld1 (qt 9)) (qQ 11 (.cvi .u32 (qt 10)) (qQ 12 (.cvi .u64 (qt 11)) (qL 13 (.call 59 [qt 12,qk 4]) (qQ 5 (.mov (qt 13)) .done)))))) false 20 [1,2,5],
 .reg (qL 2 (.box 33 (qt 0)) (qQ 4 (.mov (.const (.slice none 0 0))) .done)) false 21 [1,2]
 ]
theorem c70_ok:qF 70=qR 71 22 c70:=by kernel_rfl
def c71:qN:=[
 .ret [.cN 2 32],
 .ret [.cN 2 32],
 .reg (qQ 47 (.mov (qt 3)) (qL 48 (.call 71 [qt 47]) (.l none none (.stN 32 (qt 2) (qt 48)) [] .done))) false 1 [2],
 .jmp 12,
 .reg (qQ 21 (.mov (qt 4)) (qQ 22 (.bin .add (qt 21) (qk 2)) (qQ 4 (.mov (qt 22)) .done))) false 3 [0,2,3,4],
 .reg (qQ 38 (.mov (qt 3)) (qQ 40 (.slcA 32 1 (qt 5) none none) (qQ 42 (.slcA 32 1 (qt 6) none none) (qL 39 (.bldS 5 1 []) (qL 41 (.app 5 1 1 [(1,(.int .u8 0))] (qt 39) (qt 40)) (qL 43 (.app 5 1 1 [(1,(.int .u8 0))] (qt 41) (qt 42)) (qL 44 (.call 63 [qt 43]) (qL 45 (.bldS 22 32 [qt 44]) (qL 46 (.app 22 32 32 [(32,(.int .u8 0))] (qt 38) (qt 45)) (qQ 3 (.mov (qt 46)) .done)))))))))) true 4 [0,2,3,4],
 .reg (qQ 33 (.mov (qt 0)) (qQ 34 (.mov (qt 4)) (qQ 35 (.bin .add (qt 34) (qk 1)) (qQ 36 (.iadrS 32 (qt 33) (qt 35)) (qQ 37 (.ldN 32 (qt 36)) (.l none none (.stN 32 (qt 6) (qt 37)) [] .done)))))) false 5 [0,2,3,4,5,6],
 .cnd (qt 32) 6 5,
 .reg (qQ 28 (.mov (qt 4)) (qQ 29 (.bin .add (qt 28) (qk 1)) (qQ 30 (.mov (qt 0)) (qQ 31 (.len (qt 30)) (qQ 32 (.bin .lss (qt 29) (qt 31)) .done))))) false 7 [0,2,3,4,5,6,32],
 .reg (qQ 27 (.ldN 32 (qt 5)) (qL 6 (.alloc 22 [(32,(.int .u8 0))]) (.l none none (.stN 32 (qt 6) (qt 27)) [] .done))) false 8 [0,2,3,4,5,6],
 .reg (qQ 23 (.mov (qt 0)) (qQ 24 (.mov (qt 4)) (qQ 25 (.iadrS 32 (qt 23) (qt 24)) (qQ 26 (.ldN 32 (qt 25)) (qL 5 (.alloc 22 [(32,(.int .u8 0))]) (.l none none (.stN 32 (qt 5) (qt 26)) [] .done)))))) false 9 [0,2,3,4,5],
 .cnd (qt 20) 10 2,
 .reg (qQ 17 (.mov (qt 4)) (qQ 18 (.mov (qt 0)) (qQ 19 (.len (qt 18)) (qQ 20 (.bin .lss (qt 17) (qt 19)) .done)))) false 11 [0,2,3,4,20],
 .reg (qQ 4 (.mov (qk 0)) .done) false 12 [0,2,3,4],
 .reg (qQ 3 (.mov (.const (.slice none 0 0))) .done) false 13 [0,2,3],
 .ret [.cN 2 32],
 .reg (qQ 14 (.mov (qt 0)) (qQ 15 (.iadrS 32 (qt 14) (qk 0)) (qQ 16 (.ldN 32 (qt 15)) (.l none none (.stN 32 (qt 2) (qt 16)) [] .done)))) false 15 [2],
 .cnd (qt 13) 16 14,
 .reg (qQ 11 (.mov (qt 0)) (qQ 12 (.len (qt 11)) (qQ 13 (.bin .eql (qt 12) (qk 1)) .done))) false 17 [0,2,13],
 .ret [.cN 2 32],
 .reg (qQ 10 (.bld [.z [(32,(.int .u8 0))]]) (.l none none (.stN 32 (qt 2) (qt 10)) [] .done)) false 19 [2],
 .cnd (qt 9) 20 18,
 .reg (qQ 7 (.mov (qt 0)) (qQ 8 (.len (qt 7)) (qQ 9 (.bin .eql (qt 8) (qk 0)) .done))) false 21 [0,2,9],
 .reg (qL 2 (.alloc 22 [(32,(.int .u8 0))]) .done) false 22 [0,2]
 ]
theorem c71_ok:qF 71=qR 49 23 c71:=by kernel_rfl
def c72:qN:=[
 .ret [.t 2],
 .ret [.t 2],
 .reg (qQ 3 (.mov (qt 0)) (qQ 4 (.bin .geq (qt 3) (qk 0)) (qQ 5 (.mov (qt 4)) (.q (some 6) (some (5,true)) (.mov (qt 0)) (.q (some 7) (some (5,true)) (.bin .leq (qt 6) (qk 2100000000000000)) (qQ 8 (.pick (qt 5) (qt 7) (.const (.bool false))) (qQ 2 (.mov (qt 8)) .done))))))) false 1 [2],
 .reg (qQ 2 (.mov (.const (.bool false))) .done) false 2 [0]
 ]
theorem c72_ok:qF 72=qR 9 3 c72:=by kernel_rfl
def c73:qN:=[
 .ret [.cN 0 8],
 .ret [.cN 0 8],
 .reg (qQ 1 (.bld [.x 1 (.const (.int .u32 1779033703)),.x 1 (.const (.int .u32 3144134277)),.x 1 (.const (.int .u32 1013904242)),.x 1 (.const (.int .u32 2773480762)),.x 1 (.const (.int .u32 1359893119)),.x 1 (.const (.int .u32 2600822924)),.x 1 (.const (.int .u32 528734635)),.x 1 (.const (.int .u32 1541459225))]) (.l none none (.stN 8 (qt 0) (qt 1)) [] .done)) false 1 [0],
 .reg (qL 0 (.alloc 74 [(8,(.int .u32 0))]) .done) false 2 [0]
 ]
theorem c73_ok:qF 73=qR 2 3 c73:=by kernel_rfl
def c74:qN:=[
 .ret [.cN 0 64],
 .ret [.cN 0 64],
 .reg (qQ 1 (.bld [.x 1 (.const (.int .u32 1116352408)),.x 1 (.const (.int .u32 1899447441)),.x 1 (.const (.int .u32 3049323471)),.x 1 (.const (.int .u32 3921009573)),.x 1 (.const (.int .u32 961987163)),.x 1 (.const (.int .u32 1508970993)),.x 1 (.const (.int .u32 2453635748)),.x 1 (.const (.int .u32 2870763221)),.x 1 (.const (.int .u32 3624381080)),.x 1 (.const (.int .u32 310598401)),.x 1 (.const (.int .u32 607225278)),.x 1 (.const (.int .u32 1426881987)),.x 1 (.const (.int .u32 1925078388)),.x 1 (.const (.int .u32 2162078206)),.x 1 (.const (.int .u32 2614888103)),.x 1 (.const (.int .u32 3248222580)),.x 1 (.const (.int .u32 3835390401)),.x 1 (.const (.int .u32 4022224774)),.x 1 (.const (.int .u32 264347078)),.x 1 (.const (.int .u32 604807628)),.x 1 (.const (.int .u32 770255983)),.x 1 (.const (.int .u32 1249150122)),.x 1 (.const (.int .u32 1555081692)),.x 1 (.const (.int .u32 1996064986)),.x 1 (.const (.int .u32 2554220882)),.x 1 (.const (.int .u32 2821834349)),.x 1 (.const (.int .u32 2952996808)),.x 1 (.const (.int .u32 3210313671)),.x 1 (.const (.int .u32 3336571891)),.x 1 (.const (.int .u32 3584528711)),.x 1 (.const (.int .u32 113926993)),.x 1 (.const (.int .u32 338241895)),.x 1 (.const (.int .u32 666307205)),.x 1 (.const (.int .u32 773529912)),.x 1 (.const (.int .u32 1294757372)),.x 1 (.const (.int .u32 1396182291)),.x 1 (.const (.int .u32 1695183700)),.x 1 (.const (.int .u32 1986661051)),.x 1 (.const (.int .u32 2177026350)),.x 1 (.const (.int .u32 2456956037)),.x 1 (.const (.int .u32 2730485921)),.x 1 (.const (.int .u32 2820302411)),.x 1 (.const (.int .u32 3259730800)),.x 1 (.const (.int .u32 3345764771)),.x 1 (.const (.int .u32 3516065817)),.x 1 (.const (.int .u32 3600352804)),.x 1 (.const (.int .u32 4094571909)),.x 1 (.const (.int .u32 275423344)),.x 1 (.const (.int .u32 430227734)),.x 1 (.const (.int .u32 506948616)),.x 1 (.const (.int .u32 659060556)),.x 1 (.const (.int .u32 883997877)),.x 1 (.const (.int .u32 958139571)),.x 1 (.const (.int .u32 1322822218)),.x 1 (.const (.int .u32 1537002063)),.x 1 (.const (.int .u32 1747873779)),.x 1 (.const (.int .u32 1955562222)),.x 1 (.const (.int .u32 2024104815)),.x 1 (.const (.int .u32 2227730452)),.x 1 (.const (.int .u32 2361852424)),.x 1 (.const (.int .u32 2428436474)),.x 1 (.const (.int .u32 2756734187)),.x 1 (.const (.int .u32 3204031479)),.x 1 (.const (.int .u32 3329325298))]) (.l none none (.stN 64 (qt 0) (qt 1)) [] .done)) false 1 [0],
 .reg (qL 0 (.alloc 123 [(64,(.int .u32 0))]) .done) false 2 [0]
 ]
theorem c74_ok:qF 74=qR 2 3 c74:=by kernel_rfl
def c75:qN:=[
 .ret [],
 .jmp 6,
 .reg (qQ 189 (.bin .add (qt 175) (qk 1)) (qQ 175 (.mov (qt 189)) .done)) false 1 [0,10,175],
 .reg (qQ 178 (.mov (qt 0)) (qQ 179 (.mov (qt 17)) (qQ 180 (.nc (qt 178)) (qQ 181 (.iadrA 8 1 (qt 180) (qt 179)) (qQ 182 (.ld1 (qt 181)) (qQ 183 (.mov (qt 17)) (qQ 184 (.iadrA 8 1 (qt 10) (qt 183)) (qQ 185 (.ld1 (qt 184)) (qQ 186 (.bin .add (qt 182) (qt 185)) (qQ 187 (.nc (qt 178)) (qQ 188 (.iadrA 8 1 (qt 187) (qt 179)) (.l none none (.st1 (qt 188) (qt 186)) [] .done)))))))))))) true 2 [0,10,175],
 .reg (qQ 177 (.mov (qt 175)) (qQ 17 (.mov (qt 177)) .done)) false 3 [0,10,17,175],
 .cnd (qt 176) 4 0,
 .reg (qQ 176 (.bin .lss (qt 175) (qk 8)) .done) false 5 [0,10,175,176],
 .reg (qQ 175 (.mov (qk 0)) .done) false 6 [0,10,175],
 .jmp 18,
 .reg (qQ 174 (.bin .add (qt 100) (qk 1)) (qQ 100 (.mov (qt 174)) .done)) false 8 [0,1,10,99,100],
 .reg (qQ 170 (.mov (qt 15)) (qQ 171 (.mov (qt 16)) (qQ 172 (.bin .add (qt 170) (qt 171)) (qQ 173 (.iadrA 8 1 (qt 10) (qk 0)) (.l none none (.st1 (qt 173) (qt 172)) [] .done))))) false 9 [0,1,10,99,100],
 .reg (qQ 165 (.iadrA 8 1 (qt 10) (qk 4)) (qQ 166 (.ld1 (qt 165)) (qQ 167 (.mov (qt 15)) (qQ 168 (.bin .add (qt 166) (qt 167)) (qQ 169 (.iadrA 8 1 (qt 10) (qk 4)) (.l none none (.st1 (qt 169) (qt 168)) [] .done)))))) false 10 [0,1,10,15,16,99,100],
 .reg (qQ 162 (.slcA 8 1 (qt 10) (some (qk 1)) none) (qQ 163 (.slcA 8 1 (qt 10) none (some (qk 7))) (qL 164 (.cpy 1 (qt 162) (qt 163)) .done))) true 11 [0,1,10,15,16,99,100],
 .reg (qQ 138 (.mov (qt 14)) (qQ 140 (.mov (qt 14)) (qQ 143 (.mov (qt 14)) (qQ 146 (.mov (qt 14)) (qQ 147 (.iadrA 8 1 (qt 10) (qk 1)) (qQ 148 (.ld1 (qt 147)) (qQ 149 (.bin .and (qt 146) (qt 148)) (qQ 150 (.mov (qt 14)) (qQ 151 (.iadrA 8 1 (qt 10) (qk 2)) (qQ 152 (.ld1 (qt 151)) (qQ 153 (.bin .and (qt 150) (qt 152)) (qQ 154 (.bin .xor (qt 149) (qt 153)) (qQ 155 (.iadrA 8 1 (qt 10) (qk 1)) (qQ 156 (.ld1 (qt 155)) (qQ 157 (.iadrA 8 1 (qt 10) (qk 2)) (qQ 158 (.ld1 (qt 157)) (qQ 159 (.bin .and (qt 156) (qt 158)) (qQ 160 (.bin .xor (qt 154) (qt 159)) (.l (some 139) none (.call 116 [qt 138,qk 2]) [⟨158,none,(.ld1 (qt 157))⟩,⟨156,none,(.ld1 (qt 155))⟩,⟨152,none,(.ld1 (qt 151))⟩,⟨148,none,(.ld1 (qt 147))⟩] (.l (some 141) none (.call 116 [qt 140,qk 13]) [⟨158,none,(.ld1 (qt 157))⟩,⟨156,none,(.ld1 (qt 155))⟩,⟨152,none,(.ld1 (qt 151))⟩,⟨148,none,(.ld1 (qt 147))⟩] (qQ 142 (.bin .xor (qt 139) (qt 141)) (.l (some 144) none (.call 116 [qt 143,qk 22]) [⟨158,none,(.ld1 (qt 157))⟩,⟨156,none,(.ld1 (qt 155))⟩,⟨152,none,(.ld1 (qt 151))⟩,⟨148,none,(.ld1 (qt 147))⟩] (qQ 145 (.bin .xor (qt 142) (qt 144)) (qQ 161 (.bin .add (qt 145) (qt 160)) (qQ 16 (.mov (qt 161)) .done))))))))))))))))))))))))) true 12 [0,1,10,15,16,99,100],
 .reg (qQ 108 (.iadrA 8 1 (qt 10) (qk 7)) (qQ 109 (.ld1 (qt 108)) (qQ 110 (.mov (qt 13)) (qQ 112 (.mov (qt 13)) (qQ 115 (.mov (qt 13)) (qQ 119 (.mov (qt 13)) (qQ 120 (.iadrA 8 1 (qt 10) (qk 5)) (qQ 121 (.ld1 (qt 120)) (qQ 122 (.bin .and (qt 119) (qt 121)) (qQ 123 (.mov (qt 13)) (qQ 124 (.bnot (qt 123)) (qQ 125 (.iadrA 8 1 (qt 10) (qk 6)) (qQ 126 (.ld1 (qt 125)) (qQ 127 (.bin .and (qt 124) (qt 126)) (qQ 128 (.bin .xor (qt 122) (qt 127)) (qQ 130 (.mov (qt 1)) (qQ 131 (.mov (qt 11)) (qQ 132 (.nc (qt 130)) (qQ 133 (.iadrA 64 1 (qt 132) (qt 131)) (qQ 134 (.ld1 (qt 133)) (qQ 136 (.mov (qt 12)) (.l (some 111) none (.call 116 [qt 110,qk 6]) [⟨134,none,(.ld1 (qt 133))⟩,⟨126,none,(.ld1 (qt 125))⟩,⟨121,none,(.ld1 (qt 120))⟩,⟨109,none,(.ld1 (qt 108))⟩] (.l (some 113) none (.call 116 [qt 112,qk 11]) [⟨134,none,(.ld1 (qt 133))⟩,⟨126,none,(.ld1 (qt 125))⟩,⟨121,none,(.ld1 (qt 120))⟩,⟨109,none,(.ld1 (qt 108))⟩] (qQ 114 (.bin .xor (qt 111) (qt 113)) (.l (some 116) none (.call 116 [qt 115,qk 25]) [⟨134,none,(.ld1 (qt 133))⟩,⟨126,none,(.ld1 (qt 125))⟩,⟨121,none,(.ld1 (qt 120))⟩,⟨109,none,(.ld1 (qt 108))⟩] (qQ 117 (.bin .xor (qt 114) (qt 116)) (qQ 118 (.bin .add (qt 109) (qt 117)) (qQ 129 (.bin .add (qt 118) (qt 128)) (qQ 135 (.bin .add (qt 129) (qt 134)) (qQ 137 (.bin .add (qt 135) (qt 136)) (qQ 15 (.mov (qt 137)) .done))))))))))))))))))))))))))))))) true 13 [0,1,10,14,15,99,100],
 .reg (qQ 104 (.iadrA 8 1 (qt 10) (qk 4)) (qQ 105 (.ld1 (qt 104)) (qQ 106 (.iadrA 8 1 (qt 10) (qk 0)) (qQ 107 (.ld1 (qt 106)) (qQ 13 (.mov (qt 105)) (qQ 14 (.mov (qt 107)) .done)))))) true 14 [0,1,10,11,12,13,14,99,100],
 .reg (qQ 102 (.mov (qt 100)) (qQ 103 (.idxA 64 1 false (qt 99) (qt 100)) (qQ 11 (.mov (qt 102)) (qQ 12 (.mov (qt 103)) .done)))) false 15 [0,1,10,11,12,99,100],
 .cnd (qt 101) 16 7,
 .reg (qQ 101 (.bin .lss (qt 100) (qk 64)) .done) false 17 [0,1,10,99,100,101],
 .reg (qQ 99 (.ldN 64 (qt 6)) (qQ 100 (.mov (qk 0)) .done)) false 18 [0,1,10,99,100],
 .reg (qQ 96 (.mov (qt 0)) (qQ 97 (.nc (qt 96)) (qQ 98 (.ldN 8 (qt 97)) (qL 10 (.alloc 74 [(8,(.int .u32 0))]) (.l none none (.stN 8 (qt 10) (qt 98)) [] .done))))) false 19 [0,1,6,10],
 .jmp 30,
 .reg (qQ 95 (.bin .add (qt 18) (qk 1)) (qQ 18 (.mov (qt 95)) .done)) false 21 [0,1,2,6,18],
 .reg (qQ 66 (.mov (qt 7)) (qQ 67 (.mov (qt 7)) (qQ 68 (.bin .sub (qt 67) (qk 16)) (qQ 69 (.iadrA 64 1 (qt 6) (qt 68)) (qQ 70 (.ld1 (qt 69)) (qQ 71 (.mov (qt 7)) (qQ 72 (.bin .sub (qt 71) (qk 7)) (qQ 73 (.iadrA 64 1 (qt 6) (qt 72)) (qQ 74 (.ld1 (qt 73)) (qQ 75 (.bin .add (qt 70) (qt 74)) (qQ 76 (.mov (qt 8)) (qQ 78 (.mov (qt 8)) (qQ 81 (.mov (qt 8)) (qQ 82 (.bin .shr (qt 81) (.const (.int .u64 3))) (qQ 85 (.mov (qt 9)) (qQ 87 (.mov (qt 9)) (qQ 90 (.mov (qt 9)) (qQ 91 (.bin .shr (qt 90) (.const (.int .u64 10))) (.l (some 77) none (.call 116 [qt 76,qk 7]) [⟨74,none,(.ld1 (qt 73))⟩,⟨70,none,(.ld1 (qt 69))⟩] (.l (some 79) none (.call 116 [qt 78,qk 18]) [⟨74,none,(.ld1 (qt 73))⟩,⟨70,none,(.ld1 (qt 69))⟩] (qQ 80 (.bin .xor (qt 77) (qt 79)) (qQ 83 (.bin .xor (qt 80) (qt 82)) (qQ 84 (.bin .add (qt 75) (qt 83)) (.l (some 86) none (.call 116 [qt 85,qk 17]) [⟨74,none,(.ld1 (qt 73))⟩,⟨70,none,(.ld1 (qt 69))⟩] (.l (some 88) none (.call 116 [qt 87,qk 19]) [⟨74,none,(.ld1 (qt 73))⟩,⟨70,none,(.ld1 (qt 69))⟩] (qQ 89 (.bin .xor (qt 86) (qt 88)) (qQ 92 (.bin .xor (qt 89) (qt 91)) (qQ 93 (.bin .add (qt 84) (qt 92)) (qQ 94 (.iadrA 64 1 (qt 6) (qt 66)) (.l none none (.st1 (qt 94) (qt 93)) [] .done)))))))))))))))))))))))))))))) true 22 [0,1,2,6,18],
 .reg (qQ 58 (.mov (qt 7)) (qQ 59 (.bin .sub (qt 58) (qk 15)) (qQ 60 (.iadrA 64 1 (qt 6) (qt 59)) (qQ 61 (.ld1 (qt 60)) (qQ 62 (.mov (qt 7)) (qQ 63 (.bin .sub (qt 62) (qk 2)) (qQ 64 (.iadrA 64 1 (qt 6) (qt 63)) (qQ 65 (.ld1 (qt 64)) (qQ 8 (.mov (qt 61)) (qQ 9 (.mov (qt 65)) .done)))))))))) true 23 [0,1,2,6,7,8,9,18],
 .reg (qQ 23 (.mov (qt 7)) (qQ 24 (.mov (qt 2)) (qQ 25 (.mov (qt 7)) (qQ 26 (.bin .mul (qk 4) (qt 25)) (qQ 27 (.iadrS 1 (qt 24) (qt 26)) (qQ 28 (.ld1 (qt 27)) (qQ 29 (.cvi .u32 (qt 28)) (qQ 30 (.bin .shl (qt 29) (.const (.int .u64 24))) (qQ 31 (.mov (qt 2)) (qQ 32 (.mov (qt 7)) (qQ 33 (.bin .mul (qk 4) (qt 32)) (qQ 34 (.bin .add (qt 33) (qk 1)) (qQ 35 (.iadrS 1 (qt 31) (qt 34)) (qQ 36 (.ld1 (qt 35)) (qQ 37 (.cvi .u32 (qt 36)) (qQ 38 (.bin .shl (qt 37) (.const (.int .u64 16))) (qQ 39 (.bin .or (qt 30) (qt 38)) (qQ 40 (.mov (qt 2)) (qQ 41 (.mov (qt 7)) (qQ 42 (.bin .mul (qk 4) (qt 41)) (qQ 43 (.bin .add (qt 42) (qk 2)) (qQ 44 (.iadrS 1 (qt 40) (qt 43)) (qQ 45 (.ld1 (qt 44)) (qQ 46 (.cvi .u32 (qt 45)) (qQ 47 (.bin .shl (qt 46) (.const (.int .u64 8))) (qQ 48 (.bin .or (qt 39) (qt 47)) (qQ 49 (.mov (qt 2)) (qQ 50 (.mov (qt 7)) (qQ 51 (.bin .mul (qk 4) (qt 50)) (qQ 52 (.bin .add (qt 51) (qk 3)) (qQ 53 (.iadrS 1 (qt 49) (qt 52)) (qQ 54 (.ld1 (qt 53)) (qQ 55 (.cvi .u32 (qt 54)) (qQ 56 (.bin .or (qt 48) (qt 55)) (qQ 57 (.iadrA 64 1 (qt 6) (qt 23)) (.l none none (.st1 (qt 57) (qt 56)) [] .done)))))))))))))))))))))))))))))))))))) true 22 [0,1,2,6,18],
 .cnd (qt 22) 25 24,
 .reg (qQ 21 (.mov (qt 7)) (qQ 22 (.bin .lss (qt 21) (qk 16)) .done)) false 26 [0,1,2,6,7,18,22],
 .reg (qQ 20 (.mov (qt 18)) (qQ 7 (.mov (qt 20)) .done)) false 27 [0,1,2,6,7,18],
 .cnd (qt 19) 28 20,
 .reg (qQ 19 (.bin .lss (qt 18) (qk 64)) .done) false 29 [0,1,2,6,18,19],
 .reg (qQ 18 (.mov (qk 0)) .done) false 30 [0,1,2,6,18],
 .reg (qL 6 (.alloc 123 [(64,(.int .u32 0))]) .done) false 31 [0,1,2,6]
 ]
theorem c75_ok:qF 75=qR 190 32 c75:=by kernel_rfl
def c76:qN:=[
 .ret [.cN 2 32],
 .ret [.cN 2 32],
 .reg (qQ 64 (.ldN 32 (qt 4)) (.l none none (.stN 32 (qt 2) (qt 64)) [] .done)) false 1 [2],
 .jmp 8,
 .reg (qQ 63 (.bin .add (qt 33) (qk 1)) (qQ 33 (.mov (qt 63)) .done)) false 3 [2,4,32,33],
 .reg (qQ 37 (.mov (qt 5)) (qQ 38 (.bin .mul (qk 4) (qt 37)) (qQ 39 (.mov (qt 5)) (qQ 40 (.bin .mul (qk 4) (qt 39)) (qQ 41 (.bin .add (qt 40) (qk 1)) (qQ 42 (.mov (qt 5)) (qQ 43 (.bin .mul (qk 4) (qt 42)) (qQ 44 (.bin .add (qt 43) (qk 2)) (qQ 45 (.mov (qt 5)) (qQ 46 (.bin .mul (qk 4) (qt 45)) (qQ 47 (.bin .add (qt 46) (qk 3)) (qQ 48 (.mov (qt 6)) (qQ 49 (.bin .shr (qt 48) (.const (.int .u64 24))) (qQ 50 (.cvi .u8 (qt 49)) (qQ 51 (.mov (qt 6)) (qQ 52 (.bin .shr (qt 51) (.const (.int .u64 16))) (qQ 53 (.cvi .u8 (qt 52)) (qQ 54 (.mov (qt 6)) (qQ 55 (.bin .shr (qt 54) (.const (.int .u64 8))) (qQ 56 (.cvi .u8 (qt 55)) (qQ 57 (.mov (qt 6)) (qQ 58 (.cvi .u8 (qt 57)) (qQ 59 (.iadrA 32 1 (qt 4) (qt 38)) (.l none none (.st1 (qt 59) (qt 50)) [] (qQ 60 (.iadrA 32 1 (qt 4) (qt 41)) (.l none none (.st1 (qt 60) (qt 53)) [] (qQ 61 (.iadrA 32 1 (qt 4) (qt 44)) (.l none none (.st1 (qt 61) (qt 56)) [] (qQ 62 (.iadrA 32 1 (qt 4) (qt 47)) (.l none none (.st1 (qt 62) (qt 58)) [] .done)))))))))))))))))))))))))))))) false 4 [2,4,32,33],
 .reg (qQ 35 (.mov (qt 33)) (qQ 36 (.idxA 8 1 false (qt 32) (qt 33)) (qQ 5 (.mov (qt 35)) (qQ 6 (.mov (qt 36)) .done)))) false 5 [2,4,5,6,32,33],
 .cnd (qt 34) 6 2,
 .reg (qQ 34 (.bin .lss (qt 33) (qk 8)) .done) false 7 [2,4,32,33,34],
 .reg (qQ 31 (.fadr 0 (qt 3)) (qQ 32 (.ldN 8 (qt 31)) (qQ 33 (.mov (qk 0)) .done))) false 8 [2,4,32,33],
 .reg (qL 4 (.alloc 23 [(32,(.int .u8 0))]) .done) false 9 [2,3,4],
 .reg (qQ 25 (.mov (qt 0)) (qQ 26 (.nc (qt 25)) (qQ 27 (.fadr 9 (qt 26)) (qQ 28 (.ld1 (qt 27)) (qL 29 (.call 118 [qt 28,qk 64,qk 8]) (qL 30 (.call 33 [qt 3,qt 29]) .done)))))) false 10 [2,3],
 .reg (qQ 7 (.mov (qt 0)) (qQ 8 (.nc (qt 7)) (qQ 9 (.fadr 0 (qt 8)) (qQ 10 (.ldN 8 (qt 9)) (qQ 11 (.mov (qt 0)) (qQ 12 (.nc (qt 11)) (qQ 13 (.fadr 8 (qt 12)) (qQ 14 (.ld1 (qt 13)) (qQ 16 (.mov (qt 0)) (qQ 17 (.nc (qt 16)) (qQ 18 (.fadr 9 (qt 17)) (qQ 19 (.ld1 (qt 18)) (qQ 20 (.mov (qt 0)) (qQ 21 (.nc (qt 20)) (qQ 22 (.fadr 10 (qt 21)) (qQ 23 (.ld1 (qt 22)) (.alt (.l (some 15) none (.call 117 [qt 14]) [⟨23,none,(.ld1 (qt 22))⟩,⟨19,none,(.ld1 (qt 18))⟩,⟨10,none,(.ldN 8 (qt 9))⟩] (qQ 24 (.bld [.x 8 (qt 10),.x 1 (qt 15),.x 1 (qt 19),.x 1 (qt 23)]) (.l (some 3) none (.alloc 77 [(8,(.int .u32 0)),(1,(.slice none 0 0)),(1,(.int .u64 0)),(1,(.bool false))]) [⟨23,none,(.ld1 (qt 22))⟩,⟨19,none,(.ld1 (qt 18))⟩,⟨10,none,(.ldN 8 (qt 9))⟩] (.l none none (.stN 11 (qt 3) (qt 24)) [] .done)))) (.l (some 3) none (.alloc 77 [(8,(.int .u32 0)),(1,(.slice none 0 0)),(1,(.int .u64 0)),(1,(.bool false))]) [⟨23,none,(.ld1 (qt 22))⟩,⟨19,none,(.ld1 (qt 18))⟩,⟨14,none,(.ld1 (qt 13))⟩,⟨10,none,(.ldN 8 (qt 9))⟩] (.l (some 15) none (.call 117 [qt 14]) [⟨23,none,(.ld1 (qt 22))⟩,⟨19,none,(.ld1 (qt 18))⟩,⟨10,none,(.ldN 8 (qt 9))⟩] (qQ 24 (.bld [.x 8 (qt 10),.x 1 (qt 15),.x 1 (qt 19),.x 1 (qt 23)]) (.l none none (.stN 11 (qt 3) (qt 24)) [] .done))))))))))))))))))))) true 11 [0,2,3],
 .reg (qL 2 (.alloc 23 [(32,(.int .u8 0))]) .done) false 12 [0,2]
 ]
theorem c76_ok:qF 76=qR 65 13 c76:=by kernel_rfl
def c77:qN:=[
 .ret [.cN 2 32],
 .ret [.cN 2 32],
 .reg (qL 6 (.call 76 [qt 3]) (.l none none (.stN 32 (qt 2) (qt 6)) [] .done)) false 1 [2],
 .reg (qQ 4 (.mov (qt 0)) (qL 5 (.call 33 [qt 3,qt 4]) .done)) false 2 [2,3],
 .reg (qL 3 (.alloc 77 [(8,(.int .u32 0)),(1,(.slice none 0 0)),(1,(.int .u64 0)),(1,(.bool false))]) .done) false 3 [0,2,3],
 .reg (qL 2 (.alloc 23 [(32,(.int .u8 0))]) .done) false 4 [0,2]
 ]
theorem c77_ok:qF 77=qR 7 5 c77:=by kernel_rfl
def c78:qN:=[
 .ret [],
 .jmp 6,
 .reg (qQ 22 (.bin .add (qt 7) (qk 1)) (qQ 7 (.mov (qt 22)) .done)) false 1 [0,1,6,7],
 .reg (qQ 20 (.mov (qt 1)) (qQ 21 (.bin .shr (qt 20) (.const (.int .u64 8))) (qQ 1 (.mov (qt 21)) .done))) false 2 [0,1,6,7],
 .reg (qQ 9 (.mov (qt 0)) (qQ 10 (.mov (qt 0)) (qQ 11 (.nc (qt 10)) (qQ 12 (.fadr 0 (qt 11)) (qQ 13 (.ld1 (qt 12)) (qQ 14 (.mov (qt 1)) (qQ 15 (.cvi .u8 (qt 14)) (qL 16 (.bldS 5 1 [qt 15]) (qL 17 (.app 5 1 1 [(1,(.int .u8 0))] (qt 13) (qt 16)) (qQ 18 (.nc (qt 9)) (qQ 19 (.fadr 0 (qt 18)) (.l none none (.st1 (qt 19) (qt 17)) [] .done)))))))))))) false 3 [0,1,6,7],
 .cnd (qt 8) 4 0,
 .reg (qQ 8 (.bin .lss (qt 7) (qt 6)) .done) false 5 [0,1,6,7,8],
 .reg (qQ 6 (.mov (qt 2)) (qQ 7 (.mov (qk 0)) .done)) false 6 [0,1,6,7]
 ]
theorem c78_ok:qF 78=qR 23 7 c78:=by kernel_rfl
def c79:qN:=[
 .ret [.t 2],
 .ret [.t 2],
 .reg (qL 5 (.bldS 5 1 []) (qQ 6 (.mov (qt 0)) (qL 7 (.app 5 1 1 [(1,(.int .u8 0))] (qt 5) (qt 6)) (qQ 2 (.mov (qt 7)) .done)))) false 1 [2],
 .ret [.t 2],
 .reg (qQ 2 (.mov (.const (.slice none 0 0))) .done) false 3 [2],
 .cnd (qt 4) 4 2,
 .reg (qQ 3 (.mov (qt 0)) (qQ 4 (.eqS false (qt 3) (.const (.slice none 0 0))) .done)) false 5 [0,4],
 .reg (qQ 2 (.mov (.const (.slice none 0 0))) .done) false 6 [0]
 ]
theorem c79_ok:qF 79=qR 8 7 c79:=by kernel_rfl
def c80:qN:=[
 .ret [.t 2],
 .ret [.t 2],
 .reg (qQ 3 (.mov (qt 0)) (qL 4 (.call 119 [qt 3,(.func 120)]) (qQ 2 (.mov (qt 4)) .done))) false 1 [2],
 .reg (qQ 2 (.mov (.const (.int .u32 0))) .done) false 2 [0]
 ]
theorem c80_ok:qF 80=qR 5 3 c80:=by kernel_rfl
def c81:qN:=[
 .ret [.t 4],
 .ret [.t 4],
 .reg (qQ 5 (.mov (qt 0)) (qQ 6 (.mkF 122 [] [qt 3]) (qL 7 (.call 84 [qt 5,qt 6]) (qQ 4 (.mov (qt 7)) .done)))) false 1 [4],
 .reg (qL 3 (.box 3 (qt 1)) (qQ 4 (.mov (.const (.slice none 0 0))) .done)) false 2 [0,3]
 ]
theorem c81_ok:qF 81=qR 8 3 c81:=by kernel_rfl
def c82:qN:=[
 .ret [.c1 4],
 .ret [.c1 4],
 .reg (qQ 16 (.mov (qt 1)) (qQ 17 (.ld1 (qt 2)) (qL 18 (.callv (qt 16) [qt 17]) (.l none none (.st1 (qt 4) (qt 18)) [] .done)))) false 1 [4],
 .ret [.c1 4],
 .cnd (qt 15) 3 2,
 .reg (qQ 11 (.ld1 (qt 2)) (qQ 12 (.nc (qt 11)) (qQ 13 (.fadr 1 (qt 12)) (qQ 14 (.ld1 (qt 13)) (qQ 15 (.bin .neq (qt 14) (qk 0)) .done))))) false 4 [1,2,4,15],
 .dfr 10 123 [qt 5,qt 2,qt 4] 5 [1,2,4],
 .reg (qQ 6 (.ld1 (qt 2)) (qQ 7 (.nc (qt 6)) (qQ 8 (.fadr 0 (qt 7)) (qQ 9 (.ld1 (qt 8)) (qL 5 (.alloc 41 [(1,(.slice none 0 0))]) (.l none none (.st1 (qt 5) (qt 9)) [] .done)))))) false 6 [1,2,4,5],
 .reg (qL 2 (.box 84 (qt 0)) (qL 4 (.alloc 75 [(1,(.int .u64 0))]) .done)) false 7 [1,2,4]
 ]
theorem c82_ok:qF 82=qR 19 8 c82:=by kernel_rfl
def c83:qN:=[
 .ret [.t 2],
 .ret [.t 2],
 .reg (qQ 26 (.mov (qt 4)) (qQ 2 (.mov (qt 26)) .done)) false 1 [2],
 .reg (qQ 25 (.mif 135 (qk 2)) (.l none none (.pan (qt 25)) [] .done)) false 2 [4],
 .cnd (qt 24) 3 2,
 .reg (qQ 23 (.mov (qt 4)) (qQ 24 (.bin .gtr (qt 23) (.const (.int .u64 33554432))) .done)) false 4 [4,24],
 .reg (qQ 22 (.mif 135 (qk 3)) (.l none none (.pan (qt 22)) [] .done)) false 5 [4],
 .cnd (qt 21) 6 5,
 .reg (qQ 15 (.mov (qt 4)) (qL 16 (.call 124 [qt 15]) (qQ 17 (.mov (qt 3)) (qQ 18 (.bin .sub (qt 17) (.const (.int .u64 253))) (qQ 19 (.bin .shl (qk 2) (qt 18)) (qQ 20 (.bin .add (qk 1) (qt 19)) (qQ 21 (.bin .neq (qt 16) (qt 20)) .done))))))) false 7 [4,21],
 .reg (qQ 10 (.mov (qt 0)) (qQ 11 (.mov (qt 3)) (qQ 12 (.bin .sub (qt 11) (.const (.int .u64 253))) (qQ 13 (.bin .shl (qk 2) (qt 12)) (qL 14 (.call 121 [qt 10,qt 13]) (qQ 4 (.mov (qt 14)) .done)))))) false 8 [3,4],
 .ret [.t 2],
 .reg (qQ 9 (.mov (qt 3)) (qQ 2 (.mov (qt 9)) .done)) false 10 [2],
 .cnd (qt 8) 11 9,
 .reg (qQ 7 (.mov (qt 3)) (qQ 8 (.bin .lss (qt 7) (.const (.int .u64 253))) .done)) false 12 [0,3,8],
 .reg (qQ 5 (.mov (qt 0)) (qL 6 (.call 121 [qt 5,qk 1]) (qQ 3 (.mov (qt 6)) .done))) false 13 [0,3],
 .reg (qQ 2 (.mov (.const (.int .u64 0))) .done) false 14 [0]
 ]
theorem c83_ok:qF 83=qR 27 15 c83:=by kernel_rfl
def c84:qN:=[
 .ret [.c1 4],
 .ret [.c1 4],
 .reg (qQ 16 (.mov (qt 1)) (qQ 17 (.ld1 (qt 2)) (qL 18 (.callv (qt 16) [qt 17]) (.l none none (.st1 (qt 4) (qt 18)) [] .done)))) false 1 [4],
 .ret [.c1 4],
 .cnd (qt 15) 3 2,
 .reg (qQ 11 (.ld1 (qt 2)) (qQ 12 (.nc (qt 11)) (qQ 13 (.fadr 1 (qt 12)) (qQ 14 (.ld1 (qt 13)) (qQ 15 (.bin .neq (qt 14) (qk 0)) .done))))) false 4 [1,2,4,15],
 .dfr 10 125 [qt 5,qt 2,qt 4] 5 [1,2,4],
 .reg (qQ 6 (.ld1 (qt 2)) (qQ 7 (.nc (qt 6)) (qQ 8 (.fadr 0 (qt 7)) (qQ 9 (.ld1 (qt 8)) (qL 5 (.alloc 41 [(1,(.slice none 0 0))]) (.l none none (.st1 (qt 5) (qt 9)) [] .done)))))) false 6 [1,2,4,5],
 .reg (qL 2 (.box 84 (qt 0)) (qL 4 (.alloc 41 [(1,(.slice none 0 0))]) .done)) false 7 [1,2,4]
 ]
theorem c84_ok:qF 84=qR 19 8 c84:=by kernel_rfl
def c85:qN:=[
 .ret [.t 3],
 .ret [.t 3],
 .reg (qQ 12 (.mov (qt 0)) (qQ 13 (.mov (qt 4)) (qL 14 (.call 86 [qt 12,qt 13]) (qL 15 (.call 79 [qt 14]) (qQ 3 (.mov (qt 15)) .done))))) false 1 [3],
 .reg (qQ 11 (.mif 135 (qk 2)) (.l none none (.pan (qt 11)) [] .done)) false 2 [0,4],
 .cnd (qt 10) 3 2,
 .reg (qQ 8 (.mov (qt 4)) (qQ 9 (.ld1 (qt 1)) (qQ 10 (.bin .gtr (qt 8) (qt 9)) .done))) false 4 [0,4,10],
 .reg (qQ 5 (.mov (qt 0)) (qL 6 (.call 83 [qt 5]) (qQ 7 (.cvi .i64 (qt 6)) (qQ 4 (.mov (qt 7)) .done)))) false 5 [0,1,4],
 .reg (qQ 3 (.mov (.const (.slice none 0 0))) .done) false 6 [0,1]
 ]
theorem c85_ok:qF 85=qR 16 7 c85:=by kernel_rfl
def c86:qN:=[
 .ret [.t 4],
 .ret [.t 4],
 .reg (qQ 29 (.mov (qt 5)) (qQ 4 (.mov (qt 29)) .done)) false 1 [4],
 .reg (qQ 20 (.mov (qt 0)) (qQ 21 (.mov (qt 0)) (qQ 22 (.nc (qt 21)) (qQ 23 (.fadr 0 (qt 22)) (qQ 24 (.ld1 (qt 23)) (qQ 25 (.mov (qt 1)) (qQ 26 (.slcS 1 (qt 24) (some (qt 25)) none) (qQ 27 (.nc (qt 20)) (qQ 28 (.fadr 0 (qt 27)) (.l none none (.st1 (qt 28) (qt 26)) [] .done)))))))))) false 2 [5],
 .reg (qQ 14 (.mov (qt 0)) (qQ 15 (.nc (qt 14)) (qQ 16 (.fadr 0 (qt 15)) (qQ 17 (.ld1 (qt 16)) (qQ 18 (.mov (qt 1)) (qQ 19 (.slcS 1 (qt 17) none (some (qt 18))) (qQ 5 (.mov (qt 19)) .done))))))) false 3 [0,1,5],
 .reg (qQ 13 (.mif 135 (qk 4)) (.l none none (.pan (qt 13)) [] .done)) false 4 [0,1],
 .cnd (qt 12) 5 4,
 .reg (qQ 6 (.mov (qt 1)) (qQ 7 (.mov (qt 0)) (qQ 8 (.nc (qt 7)) (qQ 9 (.fadr 0 (qt 8)) (qQ 10 (.ld1 (qt 9)) (qQ 11 (.len (qt 10)) (qQ 12 (.bin .gtr (qt 6) (qt 11)) .done))))))) false 6 [0,1,12],
 .reg (qQ 4 (.mov (.const (.slice none 0 0))) .done) false 7 [0,1]
 ]
theorem c86_ok:qF 86=qR 30 8 c86:=by kernel_rfl
def c87:qN:=[
 .ret [.t 2],
 .ret [.t 2],
 .reg (qQ 2 (.mov (qk 8)) .done) false 1 [2],
 .ret [.t 2],
 .reg (qQ 2 (.mov (qk 0)) .done) false 3 [2],
 .ret [.t 2],
 .reg (qQ 2 (.mov (qk 2)) .done) false 5 [2],
 .ret [.t 2],
 .reg (qQ 2 (.mov (qk 4)) .done) false 7 [2],
 .cnd (qt 9) 8 2,
 .reg (qQ 10 (.mov (qt 0)) (qQ 11 (.bin .lss (qt 10) (.const (.int .u64 4294967296))) (qQ 9 (.mov (qt 11)) .done))) false 9 [9],
 .cnd (qt 6) 6 10,
 .reg (qQ 7 (.mov (qt 0)) (qQ 8 (.bin .lss (qt 7) (.const (.int .u64 65536))) (qQ 6 (.mov (qt 8)) .done))) false 11 [0,6],
 .cnd (qt 3) 4 12,
 .reg (qQ 4 (.mov (qt 0)) (qQ 5 (.bin .lss (qt 4) (.const (.int .u64 253))) (qQ 3 (.mov (qt 5)) .done))) false 13 [0,3],
 .reg (qQ 2 (.mov (qk 0)) .done) false 14 [0]
 ]
theorem c87_ok:qF 87=qR 12 15 c87:=by kernel_rfl
def c88:qN:=[
 .ret [],
 .reg (qQ 4 (.mov (qt 0)) (qQ 5 (.mov (qt 1)) (qQ 6 (.cvi .u64 (qt 5)) (qL 7 (.call 78 [qt 4,qt 6,qk 1]) .done)))) false 0 []
 ]
theorem c88_ok:qF 88=qR 8 1 c88:=by kernel_rfl
def c89:qN:=[
 .ret [.t 4],
 .ret [.t 4],
 .reg (qQ 4 (.mov (.const (.bool true))) .done) false 1 [4],
 .jmp 10,
 .reg (qQ 15 (.mov (qt 5)) (qQ 16 (.bin .add (qt 15) (qk 1)) (qQ 5 (.mov (qt 16)) .done))) false 3 [0,1,5],
 .ret [.t 4],
 .reg (qQ 4 (.mov (.const (.bool false))) .done) false 5 [4],
 .cnd (qt 26) 6 4,
 .reg (qQ 17 (.mov (qt 0)) (qQ 18 (.mov (qt 5)) (qQ 19 (.iadrS 1 (qt 17) (qt 18)) (qQ 20 (.ld1 (qt 19)) (qQ 21 (.mov (qt 1)) (qQ 22 (.mov (qt 5)) (qQ 23 (.iadrS 1 (qt 21) (qt 22)) (qQ 24 (.ld1 (qt 23)) (qL 25 (.call 20 [qt 20,qt 24]) (qQ 26 (.not (qt 25)) .done)))))))))) true 7 [0,1,5,26],
 .cnd (qt 14) 8 2,
 .reg (qQ 11 (.mov (qt 5)) (qQ 12 (.mov (qt 0)) (qQ 13 (.len (qt 12)) (qQ 14 (.bin .lss (qt 11) (qt 13)) .done)))) false 9 [0,1,5,14],
 .reg (qQ 5 (.mov (qk 0)) .done) false 10 [0,1,5],
 .ret [.t 4],
 .reg (qQ 4 (.mov (.const (.bool false))) .done) false 12 [4],
 .cnd (qt 10) 13 11,
 .reg (qQ 6 (.mov (qt 0)) (qQ 7 (.len (qt 6)) (qQ 8 (.mov (qt 1)) (qQ 9 (.len (qt 8)) (qQ 10 (.bin .neq (qt 7) (qt 9)) .done))))) false 14 [0,1,10],
 .reg (qQ 4 (.mov (.const (.bool false))) .done) false 15 [0,1]
 ]
theorem c89_ok:qF 89=qR 27 16 c89:=by kernel_rfl
def c90:qN:=[
 .ret [.t 2],
 .ret [.t 2],
 .reg (qQ 9 (.mov (qt 3)) (qQ 2 (.mov (qt 9)) .done)) false 1 [2],
 .reg (qQ 7 (.ldN 1 (qt 1)) (qL 8 (.call 93 [qt 7]) .done)) false 2 [3],
 .reg (qQ 4 (.fadr 0 (qt 1)) (qQ 5 (.ld1 (qt 4)) (qL 6 (.call 80 [qt 5]) (qQ 3 (.mov (qt 6)) .done)))) false 3 [1,3],
 .reg (qL 1 (.box 94 (qt 0)) (qQ 2 (.mov (.const (.int .u32 0))) .done)) false 4 [1]
 ]
theorem c90_ok:qF 90=qR 10 5 c90:=by kernel_rfl
def c91:qN:=[
 .ret [.t 2],
 .ret [.t 2],
 .reg (qQ 13 (.mov (qt 3)) (qQ 14 (.cvi .i64 (qt 13)) (qQ 2 (.mov (qt 14)) .done))) false 1 [2],
 .reg (qQ 9 (.ldN 1 (qt 1)) (qQ 10 (.mov (qt 3)) (qQ 11 (.bin .gtr (qt 10) (.const (.int .u64 25000))) (qL 12 (.call 94 [qt 9,qt 11,qk 2]) .done)))) false 2 [3],
 .reg (qQ 7 (.ldN 1 (qt 1)) (qL 8 (.call 93 [qt 7]) .done)) false 3 [1,3],
 .reg (qQ 4 (.fadr 0 (qt 1)) (qQ 5 (.ld1 (qt 4)) (qL 6 (.call 40 [qt 5]) (qQ 3 (.mov (qt 6)) .done)))) false 4 [1,3],
 .reg (qL 1 (.box 94 (qt 0)) (qQ 2 (.mov (qk 0)) .done)) false 5 [1]
 ]
theorem c91_ok:qF 91=qR 15 6 c91:=by kernel_rfl
def c92:qN:=[
 .ret [.t 2],
 .ret [.t 2],
 .reg (qQ 3 (.mov (qt 0)) (qL 4 (.call 126 [qt 3,(.func 127)]) (qQ 2 (.mov (qt 4)) .done))) false 1 [2],
 .reg (qQ 2 (.mov (.const (.int .u8 0))) .done) false 2 [0]
 ]
theorem c92_ok:qF 92=qR 5 3 c92:=by kernel_rfl
def c93:qN:=[
 .ret [],
 .reg (qQ 2 (.ldN 1 (qt 1)) (qQ 3 (.fadr 0 (qt 1)) (qQ 4 (.ld1 (qt 3)) (qQ 7 (.fadr 0 (qt 1)) (qQ 8 (.ld1 (qt 7)) (.l (some 5) none (.call 42 [qt 4]) [⟨8,none,(.ld1 (qt 7))⟩,⟨2,none,(.ldN 1 (qt 1))⟩] (qQ 6 (.bin .neq (qt 5) (qk 0)) (.l (some 9) none (.call 42 [qt 8]) [⟨2,none,(.ldN 1 (qt 1))⟩] (qL 10 (.call 94 [qt 2,qt 6,qt 9]) .done))))))))) true 0 [],
 .reg (qL 1 (.box 94 (qt 0)) .done) false 1 [1]
 ]
theorem c93_ok:qF 93=qR 11 2 c93:=by kernel_rfl
def c94:qN:=[
 .ret [],
 .reg (qQ 7 (.mov (qt 2)) (qQ 8 (.mif 92 (qt 7)) (.l none none (.pan (qt 8)) [] .done))) false 0 [],
 .cnd (qt 6) 1 0,
 .reg (qQ 6 (.mov (qt 1)) .done) false 2 [2,6],
 .reg (qL 3 (.box 94 (qt 0)) .done) false 3 [1,2]
 ]
theorem c94_ok:qF 94=qR 9 4 c94:=by kernel_rfl
def c95:qN:=[
 .ret [.t 4],
 .ret [.t 4],
 .reg (qQ 15 (.mov (qt 5)) (qQ 4 (.mov (qt 15)) .done)) false 1 [4],
 .jmp 7,
 .reg (qQ 14 (.bin .add (qt 7) (qk 1)) (qQ 7 (.mov (qt 14)) .done)) false 3 [1,5,6,7],
 .reg (qQ 9 (.mov (qt 5)) (qQ 10 (.mov (qt 1)) (qL 11 (.callv (qt 10) []) (qL 12 (.bldS 61 36 [qt 11]) (qL 13 (.app 61 36 96 [(32,(.int .u8 0)),(1,(.int .u32 0)),(1,(.slice none 0 0)),(1,(.int .u32 0)),(1,(.slice none 0 0))] (qt 9) (qt 12)) (qQ 5 (.mov (qt 13)) .done)))))) false 4 [1,5,6,7],
 .cnd (qt 8) 5 2,
 .reg (qQ 8 (.bin .lss (qt 7) (qt 6)) .done) false 6 [1,5,6,7,8],
 .reg (qQ 6 (.mov (qt 0)) (qQ 7 (.mov (qk 0)) .done)) false 7 [1,5,6,7],
 .reg (qQ 5 (.mov (.const (.slice none 0 0))) .done) false 8 [0,1,5],
 .reg (qQ 4 (.mov (.const (.slice none 0 0))) .done) false 9 [0,1]
 ]
theorem c95_ok:qF 95=qR 16 10 c95:=by kernel_rfl
def c96:qN:=[
 .ret [.cN 2 36],
 .ret [.cN 2 36],
 .reg (qQ 21 (.ldN 36 (qt 3)) (.l none none (.stN 36 (qt 2) (qt 21)) [] .done)) false 1 [2],
 .reg (qQ 18 (.ldN 1 (qt 1)) (qL 19 (.call 90 [qt 18]) (qQ 20 (.fadr 34 (qt 3)) (.l none none (.st1 (qt 20) (qt 19)) [] .done)))) false 2 [2,3],
 .reg (qQ 15 (.ldN 1 (qt 1)) (qL 16 (.call 100 [qt 15]) (qQ 17 (.fadr 33 (qt 3)) (.l none none (.st1 (qt 17) (qt 16)) [] .done)))) false 3 [1,2,3],
 .reg (qQ 11 (.ldN 1 (qt 1)) (qL 12 (.call 90 [qt 11]) (qQ 13 (.fadr 0 (qt 3)) (qQ 14 (.fadr 32 (qt 13)) (.l none none (.st1 (qt 14) (qt 12)) [] .done))))) false 4 [1,2,3],
 .reg (qQ 4 (.fadr 0 (qt 3)) (qQ 5 (.fadr 0 (qt 4)) (qQ 6 (.slcA 32 1 (qt 5) none none) (qQ 7 (.fadr 0 (qt 1)) (qQ 8 (.ld1 (qt 7)) (qL 9 (.call 81 [qt 8,qk 32]) (qL 10 (.cpy 1 (qt 6) (qt 9)) .done))))))) true 5 [1,2,3],
 .reg (qL 3 (.alloc 61 [(32,(.int .u8 0)),(1,(.int .u32 0)),(1,(.slice none 0 0)),(1,(.int .u32 0)),(1,(.slice none 0 0))]) .done) false 6 [1,2,3],
 .reg (qL 1 (.box 94 (qt 0)) (qL 2 (.alloc 61 [(32,(.int .u8 0)),(1,(.int .u32 0)),(1,(.slice none 0 0)),(1,(.int .u32 0)),(1,(.slice none 0 0))]) .done)) false 7 [1,2]
 ]
theorem c96_ok:qF 96=qR 22 8 c96:=by kernel_rfl
def c97:qN:=[
 .ret [.t 4],
 .ret [.t 4],
 .reg (qQ 15 (.mov (qt 5)) (qQ 4 (.mov (qt 15)) .done)) false 1 [4],
 .jmp 7,
 .reg (qQ 14 (.bin .add (qt 7) (qk 1)) (qQ 7 (.mov (qt 14)) .done)) false 3 [1,5,6,7],
 .reg (qQ 9 (.mov (qt 5)) (qQ 10 (.mov (qt 1)) (qL 11 (.callv (qt 10) []) (qL 12 (.bldS 63 2 [qt 11]) (qL 13 (.app 63 2 32 [(1,(.int .i64 0)),(1,(.slice none 0 0))] (qt 9) (qt 12)) (qQ 5 (.mov (qt 13)) .done)))))) false 4 [1,5,6,7],
 .cnd (qt 8) 5 2,
 .reg (qQ 8 (.bin .lss (qt 7) (qt 6)) .done) false 6 [1,5,6,7,8],
 .reg (qQ 6 (.mov (qt 0)) (qQ 7 (.mov (qk 0)) .done)) false 7 [1,5,6,7],
 .reg (qQ 5 (.mov (.const (.slice none 0 0))) .done) false 8 [0,1,5],
 .reg (qQ 4 (.mov (.const (.slice none 0 0))) .done) false 9 [0,1]
 ]
theorem c97_ok:qF 97=qR 16 10 c97:=by kernel_rfl
def c98:qN:=[
 .ret [.cN 2 2],
 .ret [.cN 2 2],
 .reg (qQ 9 (.mov (qt 3)) (qQ 10 (.cvi .i64 (qt 9)) (qQ 11 (.ldN 1 (qt 1)) (qL 12 (.call 100 [qt 11]) (qQ 13 (.bld [.x 1 (qt 10),.x 1 (qt 12)]) (.l none none (.stN 2 (qt 2) (qt 13)) [] .done)))))) false 1 [2],
 .reg (qQ 7 (.ldN 1 (qt 1)) (qL 8 (.call 93 [qt 7]) .done)) false 2 [1,2,3],
 .reg (qQ 4 (.fadr 0 (qt 1)) (qQ 5 (.ld1 (qt 4)) (qL 6 (.call 128 [qt 5]) (qQ 3 (.mov (qt 6)) .done)))) false 3 [1,2,3],
 .reg (qL 1 (.box 94 (qt 0)) (qL 2 (.alloc 63 [(1,(.int .i64 0)),(1,(.slice none 0 0))]) .done)) false 4 [1,2]
 ]
theorem c98_ok:qF 98=qR 14 5 c98:=by kernel_rfl
def c99:qN:=[
 .ret [.t 4],
 .ret [.t 4],
 .reg (qQ 15 (.mov (qt 5)) (qQ 4 (.mov (qt 15)) .done)) false 1 [4],
 .jmp 7,
 .reg (qQ 14 (.bin .add (qt 7) (qk 1)) (qQ 7 (.mov (qt 14)) .done)) false 3 [1,5,6,7],
 .reg (qQ 9 (.mov (qt 5)) (qQ 10 (.mov (qt 1)) (qL 11 (.callv (qt 10) []) (qL 12 (.bldS 41 1 [qt 11]) (qL 13 (.app 41 1 24 [(1,(.slice none 0 0))] (qt 9) (qt 12)) (qQ 5 (.mov (qt 13)) .done)))))) false 4 [1,5,6,7],
 .cnd (qt 8) 5 2,
 .reg (qQ 8 (.bin .lss (qt 7) (qt 6)) .done) false 6 [1,5,6,7,8],
 .reg (qQ 6 (.mov (qt 0)) (qQ 7 (.mov (qk 0)) .done)) false 7 [1,5,6,7],
 .reg (qQ 5 (.mov (.const (.slice none 0 0))) .done) false 8 [0,1,5],
 .reg (qQ 4 (.mov (.const (.slice none 0 0))) .done) false 9 [0,1]
 ]
theorem c99_ok:qF 99=qR 16 10 c99:=by kernel_rfl
def c100:qN:=[
 .ret [.t 2],
 .ret [.t 2],
 .reg (qQ 9 (.mov (qt 3)) (qQ 2 (.mov (qt 9)) .done)) false 1 [2],
 .reg (qQ 7 (.ldN 1 (qt 1)) (qL 8 (.call 93 [qt 7]) .done)) false 2 [3],
 .reg (qQ 4 (.fadr 0 (qt 1)) (qQ 5 (.ld1 (qt 4)) (qL 6 (.call 41 [qt 5,qk 100000]) (qQ 3 (.mov (qt 6)) .done)))) false 3 [1,3],
 .reg (qL 1 (.box 94 (qt 0)) (qQ 2 (.mov (.const (.slice none 0 0))) .done)) false 4 [1]
 ]
theorem c100_ok:qF 100=qR 10 5 c100:=by kernel_rfl
def c101:qN:=[
 .ret [.t 2],
 .ret [.t 2],
 .reg (qQ 3 (.mov (qt 0)) (qQ 4 (.nc (qt 3)) (qQ 5 (.fadr 0 (qt 4)) (qQ 6 (.ld1 (qt 5)) (qQ 7 (.len (qt 6)) (qQ 2 (.mov (qt 7)) .done)))))) false 1 [2],
 .reg (qQ 2 (.mov (qk 0)) .done) false 2 [0]
 ]
theorem c101_ok:qF 101=qR 8 3 c101:=by kernel_rfl
def c102:qN:=[
 .ret [.t 4],
 .ret [.t 4],
 .reg (qQ 5 (.mov (qt 0)) (qQ 6 (.mov (qt 1)) (qL 7 (.call 129 [qt 5,qt 6]) (qQ 8 (.bin .geq (qt 7) (qk 0)) (qQ 4 (.mov (qt 8)) .done))))) false 1 [4],
 .reg (qQ 4 (.mov (.const (.bool false))) .done) false 2 [0,1]
 ]
theorem c102_ok:qF 102=qR 9 3 c102:=by kernel_rfl
def c103:qN:=[
 .ret [.t 2],
 .ret [.t 2],
 .reg (qQ 3 (.fadr 35 (qt 1)) (qQ 4 (.ld1 (qt 3)) (qQ 5 (.len (qt 4)) (qQ 6 (.bin .gtr (qt 5) (qk 0)) (qQ 2 (.mov (qt 6)) .done))))) false 1 [2],
 .reg (qL 1 (.box 61 (qt 0)) (qQ 2 (.mov (.const (.bool false))) .done)) false 2 [1]
 ]
theorem c103_ok:qF 103=qR 7 3 c103:=by kernel_rfl
def c104:qN:=[
 .ret [.t 2],
 .ret [.t 2],
 .reg (qQ 3 (.mov (qt 0)) (qQ 4 (.bin .geq (qt 3) (qk 0)) (qQ 5 (.mov (qt 4)) (.q (some 6) (some (5,true)) (.mov (qt 0)) (.q (some 7) (some (5,true)) (.bin .leq (qt 6) (qk 2100000000000000)) (qQ 8 (.pick (qt 5) (qt 7) (.const (.bool false))) (qQ 2 (.mov (qt 8)) .done))))))) false 1 [2],
 .reg (qQ 2 (.mov (.const (.bool false))) .done) false 2 [0]
 ]
theorem c104_ok:qF 104=qR 9 3 c104:=by kernel_rfl
def c105:qN:=[
 .ret [.t 4],
 .ret [.t 4],
 .reg (qQ 5 (.mov (qt 0)) (qQ 6 (.b2s (qt 5)) (qQ 7 (.mov (qt 1)) (qQ 8 (.b2s (qt 7)) (qQ 9 (.bin .eql (qt 6) (qt 8)) (qQ 4 (.mov (qt 9)) .done)))))) false 1 [4],
 .reg (qQ 4 (.mov (.const (.bool false))) .done) false 2 [0,1]
 ]
theorem c105_ok:qF 105=qR 10 3 c105:=by kernel_rfl
def c106:qN:=[
 .ret [.t 6],
 .ret [.t 6],
 .reg (qQ 6 (.mov (.const (.bool true))) .done) false 1 [6],
 .jmp 12,
 .reg (qQ 31 (.bin .add (qt 17) (qk 1)) (qQ 17 (.mov (qt 31)) .done)) false 3 [1,2,15,16,17],
 .ret [.t 6],
 .reg (qQ 6 (.mov (.const (.bool false))) .done) false 5 [6],
 .cnd (qt 30) 6 4,
 .reg (qQ 26 (.mov (qt 2)) (qQ 27 (.mov (qt 8)) (qQ 28 (.mov (qt 9)) (qL 29 (.callv (qt 26) [qt 27,qt 28]) (qQ 30 (.not (qt 29)) .done))))) false 7 [1,2,15,16,17,30],
 .reg (qQ 22 (.mov (qt 1)) (qQ 23 (.mov (qt 7)) (qQ 24 (.iadrS 1 (qt 22) (qt 23)) (qQ 25 (.ld1 (qt 24)) (qQ 9 (.mov (qt 25)) .done))))) false 8 [1,2,8,9,15,16,17],
 .reg (qQ 19 (.mov (qt 17)) (qQ 20 (.iadrS 1 (qt 15) (qt 17)) (qQ 21 (.ld1 (qt 20)) (qQ 7 (.mov (qt 19)) (qQ 8 (.mov (qt 21)) .done))))) false 9 [1,2,7,8,15,16,17],
 .cnd (qt 18) 10 2,
 .reg (qQ 18 (.bin .lss (qt 17) (qt 16)) .done) false 11 [1,2,15,16,17,18],
 .reg (qQ 15 (.mov (qt 0)) (qQ 16 (.len (qt 15)) (qQ 17 (.mov (qk 0)) .done))) false 12 [1,2,15,16,17],
 .ret [.t 6],
 .reg (qQ 6 (.mov (.const (.bool false))) .done) false 14 [6],
 .cnd (qt 14) 15 13,
 .reg (qQ 10 (.mov (qt 0)) (qQ 11 (.len (qt 10)) (qQ 12 (.mov (qt 1)) (qQ 13 (.len (qt 12)) (qQ 14 (.bin .neq (qt 11) (qt 13)) .done))))) false 16 [0,1,2,14],
 .reg (qQ 6 (.mov (.const (.bool false))) .done) false 17 [0,1,2]
 ]
theorem c106_ok:qF 106=qR 32 18 c106:=by kernel_rfl
def c107:qN:=[
 .ret [.t 2],
 .ret [.t 2],
 .reg (qL 5 (.bldS 23 32 []) (qQ 6 (.mov (qt 0)) (qL 7 (.app 23 32 32 [(32,(.int .u8 0))] (qt 5) (qt 6)) (qQ 2 (.mov (qt 7)) .done)))) false 1 [2],
 .ret [.t 2],
 .reg (qQ 2 (.mov (.const (.slice none 0 0))) .done) false 3 [2],
 .cnd (qt 4) 4 2,
 .reg (qQ 3 (.mov (qt 0)) (qQ 4 (.eqS false (qt 3) (.const (.slice none 0 0))) .done)) false 5 [0,4],
 .reg (qQ 2 (.mov (.const (.slice none 0 0))) .done) false 6 [0]
 ]
theorem c107_ok:qF 107=qR 8 7 c107:=by kernel_rfl
def c108:qN:=[
 .ret [.t 4],
 .ret [.t 4],
 .reg (qQ 8 (.mkF 130 [] [qt 2,qt 3]) (qQ 4 (.mov (qt 8)) .done)) false 1 [4],
 .reg (qQ 7 (.mif 9 (.const (.string ⟨#[99,97,110,110,111,116,32,98,101,32,108,101,115,115,32,116,104,97,110,32,49]⟩))) (.l none none (.pan (qt 7)) [] .done)) false 2 [2,3],
 .cnd (qt 6) 3 2,
 .reg (qQ 5 (.ld1 (qt 3)) (qQ 6 (.bin .lss (qt 5) (qk 1)) .done)) false 4 [2,3,6],
 .reg (qL 2 (.box 105 (qt 0)) (qL 3 (.box 3 (qt 1)) (qQ 4 (.mov (.const .nilFunc)) .done))) false 5 [2,3]
 ]
theorem c108_ok:qF 108=qR 9 6 c108:=by kernel_rfl
def c109:qN:=[
 .ret [.cN 2 32],
 .ret [.cN 2 32],
 .reg (qQ 227 (.ldN 32 (qt 18)) (.l none none (.stN 32 (qt 2) (qt 227)) [] .done)) false 1 [2],
 .jmp 7,
 .reg (qQ 212 (.mov (qt 19)) (qQ 213 (.bin .add (qt 212) (qk 1)) (qQ 19 (.mov (qt 213)) .done))) false 3 [2,4,18,19],
 .reg (qQ 214 (.mov (qt 19)) (qQ 215 (.mov (qt 19)) (qQ 216 (.bin .quo (qt 215) (qk 4)) (qQ 217 (.iadrA 8 1 (qt 4) (qt 216)) (qQ 218 (.ld1 (qt 217)) (qQ 219 (.mov (qt 19)) (qQ 220 (.bin .rem (qt 219) (qk 4)) (qQ 221 (.bin .mul (qk 8) (qt 220)) (qQ 222 (.bin .sub (qk 24) (qt 221)) (qQ 223 (.cvi .u64 (qt 222)) (qQ 224 (.bin .shr (qt 218) (qt 223)) (qQ 225 (.cvi .u8 (qt 224)) (qQ 226 (.iadrA 32 1 (qt 18) (qt 214)) (.l none none (.st1 (qt 226) (qt 225)) [] .done)))))))))))))) false 4 [2,4,18,19],
 .cnd (qt 211) 5 2,
 .reg (qQ 210 (.mov (qt 19)) (qQ 211 (.bin .lss (qt 210) (qk 32)) .done)) false 6 [2,4,18,19,211],
 .reg (qQ 19 (.mov (qk 0)) .done) false 7 [2,4,18,19],
 .reg (qL 18 (.alloc 22 [(32,(.int .u8 0))]) .done) false 8 [2,4,18],
 .jmp 48,
 .reg (qQ 28 (.mov (qt 6)) (qQ 29 (.bin .add (qt 28) (qk 64)) (qQ 6 (.mov (qt 29)) .done))) false 10 [2,3,4,5,6],
 .jmp 16,
 .reg (qQ 199 (.mov (qt 17)) (qQ 200 (.bin .add (qt 199) (qk 1)) (qQ 17 (.mov (qt 200)) .done))) false 12 [2,3,4,5,6,13,17],
 .reg (qQ 201 (.mov (qt 17)) (qQ 202 (.mov (qt 17)) (qQ 203 (.iadrA 8 1 (qt 4) (qt 202)) (qQ 204 (.ld1 (qt 203)) (qQ 205 (.mov (qt 17)) (qQ 206 (.iadrA 8 1 (qt 13) (qt 205)) (qQ 207 (.ld1 (qt 206)) (qQ 208 (.bin .add (qt 204) (qt 207)) (qQ 209 (.iadrA 8 1 (qt 4) (qt 201)) (.l none none (.st1 (qt 209) (qt 208)) [] .done)))))))))) true 13 [2,3,4,5,6,13,17],
 .cnd (qt 198) 14 11,
 .reg (qQ 197 (.mov (qt 17)) (qQ 198 (.bin .lss (qt 197) (qk 8)) .done)) false 15 [2,3,4,5,6,13,17,198],
 .reg (qQ 17 (.mov (qk 0)) .done) false 16 [2,3,4,5,6,13,17],
 .jmp 24,
 .reg (qQ 111 (.mov (qt 14)) (qQ 112 (.bin .add (qt 111) (qk 1)) (qQ 14 (.mov (qt 112)) .done))) false 18 [2,3,4,5,6,7,13,14],
 .reg (qQ 177 (.mov (qt 15)) (qQ 178 (.mov (qt 16)) (qQ 179 (.bin .add (qt 177) (qt 178)) (qQ 180 (.iadrA 8 1 (qt 13) (qk 0)) (qQ 181 (.ld1 (qt 180)) (qQ 182 (.iadrA 8 1 (qt 13) (qk 1)) (qQ 183 (.ld1 (qt 182)) (qQ 184 (.iadrA 8 1 (qt 13) (qk 2)) (qQ 185 (.ld1 (qt 184)) (qQ 186 (.iadrA 8 1 (qt 13) (qk 3)) (qQ 187 (.ld1 (qt 186)) (qQ 188 (.mov (qt 15)) (qQ 189 (.bin .add (qt 187) (qt 188)) (qQ 190 (.iadrA 8 1 (qt 13) (qk 4)) (qQ 191 (.ld1 (qt 190)) (qQ 192 (.iadrA 8 1 (qt 13) (qk 5)) (qQ 193 (.ld1 (qt 192)) (qQ 194 (.iadrA 8 1 (qt 13) (qk 6)) (qQ 195 (.ld1 (qt 194)) (qQ 196 (.bld [.x 1 (qt 179),.x 1 (qt 181),.x 1 (qt 183),.x 1 (qt 185),.x 1 (qt 189),.x 1 (qt 191),.x 1 (qt 193),.x 1 (qt 195)]) (.l none none (.stN 8 (qt 13) (qt 196)) [] .done))))))))))))))))))))) false 19 [2,3,4,5,6,7,13,14],
 .reg (qQ 148 (.iadrA 8 1 (qt 13) (qk 0)) (qQ 149 (.ld1 (qt 148)) (qQ 151 (.iadrA 8 1 (qt 13) (qk 0)) (qQ 152 (.ld1 (qt 151)) (qQ 155 (.iadrA 8 1 (qt 13) (qk 0)) (qQ 156 (.ld1 (qt 155)) (qQ 159 (.iadrA 8 1 (qt 13) (qk 0)) (qQ 160 (.ld1 (qt 159)) (qQ 161 (.iadrA 8 1 (qt 13) (qk 1)) (qQ 162 (.ld1 (qt 161)) (qQ 163 (.bin .and (qt 160) (qt 162)) (qQ 164 (.iadrA 8 1 (qt 13) (qk 0)) (qQ 165 (.ld1 (qt 164)) (qQ 166 (.iadrA 8 1 (qt 13) (qk 2)) (qQ 167 (.ld1 (qt 166)) (qQ 168 (.bin .and (qt 165) (qt 167)) (qQ 169 (.bin .xor (qt 163) (qt 168)) (qQ 170 (.iadrA 8 1 (qt 13) (qk 1)) (qQ 171 (.ld1 (qt 170)) (qQ 172 (.iadrA 8 1 (qt 13) (qk 2)) (qQ 173 (.ld1 (qt 172)) (qQ 174 (.bin .and (qt 171) (qt 173)) (qQ 175 (.bin .xor (qt 169) (qt 174)) (.l (some 150) none (.call 132 [qt 149,qk 30]) [⟨173,none,(.ld1 (qt 172))⟩,⟨171,none,(.ld1 (qt 170))⟩,⟨167,none,(.ld1 (qt 166))⟩,⟨165,none,(.ld1 (qt 164))⟩,⟨162,none,(.ld1 (qt 161))⟩,⟨160,none,(.ld1 (qt 159))⟩,⟨156,none,(.ld1 (qt 155))⟩,⟨152,none,(.ld1 (qt 151))⟩] (.l (some 153) none (.call 132 [qt 152,qk 19]) [⟨173,none,(.ld1 (qt 172))⟩,⟨171,none,(.ld1 (qt 170))⟩,⟨167,none,(.ld1 (qt 166))⟩,⟨165,none,(.ld1 (qt 164))⟩,⟨162,none,(.ld1 (qt 161))⟩,⟨160,none,(.ld1 (qt 159))⟩,⟨156,none,(.ld1 (qt 155))⟩] (qQ 154 (.bin .xor (qt 150) (qt 153)) (.l (some 157) none (.call 132 [qt 156,qk 10]) [⟨173,none,(.ld1 (qt 172))⟩,⟨171,none,(.ld1 (qt 170))⟩,⟨167,none,(.ld1 (qt 166))⟩,⟨165,none,(.ld1 (qt 164))⟩,⟨162,none,(.ld1 (qt 161))⟩,⟨160,none,(.ld1 (qt 159))⟩] (qQ 158 (.bin .xor (qt 154) (qt 157)) (qQ 176 (.bin .add (qt 158) (qt 175)) (qQ 16 (.mov (qt 176)) .done)))))))))))))))))))))))))))))) true 20 [2,3,4,5,6,7,13,14,15,16],
 .reg (qQ 113 (.iadrA 8 1 (qt 13) (qk 7)) (qQ 114 (.ld1 (qt 113)) (qQ 115 (.iadrA 8 1 (qt 13) (qk 4)) (qQ 116 (.ld1 (qt 115)) (qQ 118 (.iadrA 8 1 (qt 13) (qk 4)) (qQ 119 (.ld1 (qt 118)) (qQ 122 (.iadrA 8 1 (qt 13) (qk 4)) (qQ 123 (.ld1 (qt 122)) (qQ 127 (.iadrA 8 1 (qt 13) (qk 4)) (qQ 128 (.ld1 (qt 127)) (qQ 129 (.iadrA 8 1 (qt 13) (qk 5)) (qQ 130 (.ld1 (qt 129)) (qQ 131 (.bin .and (qt 128) (qt 130)) (qQ 132 (.iadrA 8 1 (qt 13) (qk 4)) (qQ 133 (.ld1 (qt 132)) (qQ 134 (.bnot (qt 133)) (qQ 135 (.iadrA 8 1 (qt 13) (qk 6)) (qQ 136 (.ld1 (qt 135)) (qQ 137 (.bin .and (qt 134) (qt 136)) (qQ 138 (.bin .xor (qt 131) (qt 137)) (qQ 140 (.mov (qt 14)) (qQ 141 (.iadrA 64 1 (qt 3) (qt 140)) (qQ 142 (.ld1 (qt 141)) (qQ 144 (.mov (qt 14)) (qQ 145 (.iadrA 64 1 (qt 7) (qt 144)) (qQ 146 (.ld1 (qt 145)) (.l (some 117) none (.call 132 [qt 116,qk 26]) [⟨146,none,(.ld1 (qt 145))⟩,⟨142,none,(.ld1 (qt 141))⟩,⟨136,none,(.ld1 (qt 135))⟩,⟨133,none,(.ld1 (qt 132))⟩,⟨130,none,(.ld1 (qt 129))⟩,⟨128,none,(.ld1 (qt 127))⟩,⟨123,none,(.ld1 (qt 122))⟩,⟨119,none,(.ld1 (qt 118))⟩,⟨114,none,(.ld1 (qt 113))⟩] (.l (some 120) none (.call 132 [qt 119,qk 21]) [⟨146,none,(.ld1 (qt 145))⟩,⟨142,none,(.ld1 (qt 141))⟩,⟨136,none,(.ld1 (qt 135))⟩,⟨133,none,(.ld1 (qt 132))⟩,⟨130,none,(.ld1 (qt 129))⟩,⟨128,none,(.ld1 (qt 127))⟩,⟨123,none,(.ld1 (qt 122))⟩,⟨114,none,(.ld1 (qt 113))⟩] (qQ 121 (.bin .xor (qt 117) (qt 120)) (.l (some 124) none (.call 132 [qt 123,qk 7]) [⟨146,none,(.ld1 (qt 145))⟩,⟨142,none,(.ld1 (qt 141))⟩,⟨136,none,(.ld1 (qt 135))⟩,⟨133,none,(.ld1 (qt 132))⟩,⟨130,none,(.ld1 (qt 129))⟩,⟨128,none,(.ld1 (qt 127))⟩,⟨114,none,(.ld1 (qt 113))⟩] (qQ 125 (.bin .xor (qt 121) (qt 124)) (qQ 126 (.bin .add (qt 114) (qt 125)) (qQ 139 (.bin .add (qt 126) (qt 138)) (qQ 143 (.bin .add (qt 139) (qt 142)) (qQ 147 (.bin .add (qt 143) (qt 146)) (qQ 15 (.mov (qt 147)) .done)))))))))))))))))))))))))))))))))))) true 21 [2,3,4,5,6,7,13,14,15],
 .cnd (qt 110) 22 17,
 .reg (qQ 109 (.mov (qt 14)) (qQ 110 (.bin .lss (qt 109) (qk 64)) .done)) false 23 [2,3,4,5,6,7,13,14,110],
 .reg (qQ 14 (.mov (qk 0)) .done) false 24 [2,3,4,5,6,7,13,14],
 .reg (qQ 108 (.ldN 8 (qt 4)) (qL 13 (.alloc 73 [(8,(.int .u32 0))]) (.l none none (.stN 8 (qt 13) (qt 108)) [] .done))) false 25 [2,3,4,5,6,7,13],
 .jmp 33,
 .reg (qQ 57 (.mov (qt 10)) (qQ 58 (.bin .add (qt 57) (qk 1)) (qQ 10 (.mov (qt 58)) .done))) false 27 [2,3,4,5,6,7,10],
 .reg (qQ 93 (.mov (qt 10)) (qQ 94 (.mov (qt 12)) (qQ 95 (.mov (qt 10)) (qQ 96 (.bin .sub (qt 95) (qk 7)) (qQ 97 (.iadrA 64 1 (qt 7) (qt 96)) (qQ 98 (.ld1 (qt 97)) (qQ 99 (.bin .add (qt 94) (qt 98)) (qQ 100 (.mov (qt 11)) (qQ 101 (.bin .add (qt 99) (qt 100)) (qQ 102 (.mov (qt 10)) (qQ 103 (.bin .sub (qt 102) (qk 16)) (qQ 104 (.iadrA 64 1 (qt 7) (qt 103)) (qQ 105 (.ld1 (qt 104)) (qQ 106 (.bin .add (qt 101) (qt 105)) (qQ 107 (.iadrA 64 1 (qt 7) (qt 93)) (.l none none (.st1 (qt 107) (qt 106)) [] .done)))))))))))))))) true 28 [2,3,4,5,6,7,10],
 .reg (qQ 76 (.mov (qt 10)) (qQ 77 (.bin .sub (qt 76) (qk 2)) (qQ 78 (.iadrA 64 1 (qt 7) (qt 77)) (qQ 79 (.ld1 (qt 78)) (qQ 81 (.mov (qt 10)) (qQ 82 (.bin .sub (qt 81) (qk 2)) (qQ 83 (.iadrA 64 1 (qt 7) (qt 82)) (qQ 84 (.ld1 (qt 83)) (qQ 87 (.mov (qt 10)) (qQ 88 (.bin .sub (qt 87) (qk 2)) (qQ 89 (.iadrA 64 1 (qt 7) (qt 88)) (qQ 90 (.ld1 (qt 89)) (qQ 91 (.bin .shr (qt 90) (.const (.int .u64 10))) (.l (some 80) none (.call 132 [qt 79,qk 15]) [⟨90,none,(.ld1 (qt 89))⟩,⟨84,none,(.ld1 (qt 83))⟩] (.l (some 85) none (.call 132 [qt 84,qk 13]) [⟨90,none,(.ld1 (qt 89))⟩] (qQ 86 (.bin .xor (qt 80) (qt 85)) (qQ 92 (.bin .xor (qt 86) (qt 91)) (qQ 12 (.mov (qt 92)) .done)))))))))))))))))) true 29 [2,3,4,5,6,7,10,11,12],
 .reg (qQ 59 (.mov (qt 10)) (qQ 60 (.bin .sub (qt 59) (qk 15)) (qQ 61 (.iadrA 64 1 (qt 7) (qt 60)) (qQ 62 (.ld1 (qt 61)) (qQ 64 (.mov (qt 10)) (qQ 65 (.bin .sub (qt 64) (qk 15)) (qQ 66 (.iadrA 64 1 (qt 7) (qt 65)) (qQ 67 (.ld1 (qt 66)) (qQ 70 (.mov (qt 10)) (qQ 71 (.bin .sub (qt 70) (qk 15)) (qQ 72 (.iadrA 64 1 (qt 7) (qt 71)) (qQ 73 (.ld1 (qt 72)) (qQ 74 (.bin .shr (qt 73) (.const (.int .u64 3))) (.l (some 63) none (.call 132 [qt 62,qk 25]) [⟨73,none,(.ld1 (qt 72))⟩,⟨67,none,(.ld1 (qt 66))⟩] (.l (some 68) none (.call 132 [qt 67,qk 14]) [⟨73,none,(.ld1 (qt 72))⟩] (qQ 69 (.bin .xor (qt 63) (qt 68)) (qQ 75 (.bin .xor (qt 69) (qt 74)) (qQ 11 (.mov (qt 75)) .done)))))))))))))))))) true 30 [2,3,4,5,6,7,10,11],
 .cnd (qt 56) 31 26,
 .reg (qQ 55 (.mov (qt 10)) (qQ 56 (.bin .lss (qt 55) (qk 64)) .done)) false 32 [2,3,4,5,6,7,10,56],
 .reg (qQ 10 (.mov (qk 16)) .done) false 33 [2,3,4,5,6,7,10],
 .jmp 44,
 .reg (qQ 32 (.mov (qt 8)) (qQ 33 (.bin .add (qt 32) (qk 1)) (qQ 8 (.mov (qt 33)) .done))) false 35 [2,3,4,5,6,7,8],
 .jmp 41,
 .reg (qQ 36 (.mov (qt 9)) (qQ 37 (.bin .add (qt 36) (qk 1)) (qQ 9 (.mov (qt 37)) .done))) false 37 [2,3,4,5,6,7,8,9],
 .reg (qQ 38 (.mov (qt 8)) (qQ 39 (.mov (qt 8)) (qQ 40 (.iadrA 64 1 (qt 7) (qt 39)) (qQ 41 (.ld1 (qt 40)) (qQ 42 (.bin .mul (qt 41) (.const (.int .u32 256))) (qQ 43 (.mov (qt 5)) (qQ 44 (.mov (qt 6)) (qQ 45 (.mov (qt 8)) (qQ 46 (.bin .mul (qk 4) (qt 45)) (qQ 47 (.bin .add (qt 44) (qt 46)) (qQ 48 (.mov (qt 9)) (qQ 49 (.bin .add (qt 47) (qt 48)) (qQ 50 (.iadrS 1 (qt 43) (qt 49)) (qQ 51 (.ld1 (qt 50)) (qQ 52 (.cvi .u32 (qt 51)) (qQ 53 (.bin .add (qt 42) (qt 52)) (qQ 54 (.iadrA 64 1 (qt 7) (qt 38)) (.l none none (.st1 (qt 54) (qt 53)) [] .done)))))))))))))))))) true 38 [2,3,4,5,6,7,8,9],
 .cnd (qt 35) 39 36,
 .reg (qQ 34 (.mov (qt 9)) (qQ 35 (.bin .lss (qt 34) (qk 4)) .done)) false 40 [2,3,4,5,6,7,8,9,35],
 .reg (qQ 9 (.mov (qk 0)) .done) false 41 [2,3,4,5,6,7,8,9],
 .cnd (qt 31) 42 34,
 .reg (qQ 30 (.mov (qt 8)) (qQ 31 (.bin .lss (qt 30) (qk 16)) .done)) false 43 [2,3,4,5,6,7,8,31],
 .reg (qQ 8 (.mov (qk 0)) .done) false 44 [2,3,4,5,6,7,8],
 .reg (qL 7 (.alloc 123 [(64,(.int .u32 0))]) .done) false 45 [2,3,4,5,6,7],
 .cnd (qt 27) 46 9,
 .reg (qQ 24 (.mov (qt 6)) (qQ 25 (.mov (qt 5)) (qQ 26 (.len (qt 25)) (qQ 27 (.bin .lss (qt 24) (qt 26)) .done)))) false 47 [2,3,4,5,6,27],
 .reg (qQ 6 (.mov (qk 0)) .done) false 48 [2,3,4,5,6],
 .reg (qQ 22 (.mov (qt 0)) (qL 23 (.call 131 [qt 22,qk 64,qk 8,(.const (.bool false))]) (qQ 5 (.mov (qt 23)) .done))) false 49 [2,3,4,5],
 .reg (qQ 21 (.bld [.x 1 (.const (.int .u32 1779033703)),.x 1 (.const (.int .u32 3144134277)),.x 1 (.const (.int .u32 1013904242)),.x 1 (.const (.int .u32 2773480762)),.x 1 (.const (.int .u32 1359893119)),.x 1 (.const (.int .u32 2600822924)),.x 1 (.const (.int .u32 528734635)),.x 1 (.const (.int .u32 1541459225))]) (qL 4 (.alloc 73 [(8,(.int .u32 0))]) (.l none none (.stN 8 (qt 4) (qt 21)) [] .done))) false 50 [0,2,3,4],
 .reg (qQ 20 (.bld [.x 1 (.const (.int .u32 1116352408)),.x 1 (.const (.int .u32 1899447441)),.x 1 (.const (.int .u32 3049323471)),.x 1 (.const (.int .u32 3921009573)),.x 1 (.const (.int .u32 961987163)),.x 1 (.const (.int .u32 1508970993)),.x 1 (.const (.int .u32 2453635748)),.x 1 (.const (.int .u32 2870763221)),.x 1 (.const (.int .u32 3624381080)),.x 1 (.const (.int .u32 310598401)),.x 1 (.const (.int .u32 607225278)),.x 1 (.const (.int .u32 1426881987)),.x 1 (.const (.int .u32 1925078388)),.x 1 (.const (.int .u32 2162078206)),.x 1 (.const (.int .u32 2614888103)),.x 1 (.const (.int .u32 3248222580)),.x 1 (.const (.int .u32 3835390401)),.x 1 (.const (.int .u32 4022224774)),.x 1 (.const (.int .u32 264347078)),.x 1 (.const (.int .u32 604807628)),.x 1 (.const (.int .u32 770255983)),.x 1 (.const (.int .u32 1249150122)),.x 1 (.const (.int .u32 1555081692)),.x 1 (.const (.int .u32 1996064986)),.x 1 (.const (.int .u32 2554220882)),.x 1 (.const (.int .u32 2821834349)),.x 1 (.const (.int .u32 2952996808)),.x 1 (.const (.int .u32 3210313671)),.x 1 (.const (.int .u32 3336571891)),.x 1 (.const (.int .u32 3584528711)),.x 1 (.const (.int .u32 113926993)),.x 1 (.const (.int .u32 338241895)),.x 1 (.const (.int .u32 666307205)),.x 1 (.const (.int .u32 773529912)),.x 1 (.const (.int .u32 1294757372)),.x 1 (.const (.int .u32 1396182291)),.x 1 (.const (.int .u32 1695183700)),.x 1 (.const (.int .u32 1986661051)),.x 1 (.const (.int .u32 2177026350)),.x 1 (.const (.int .u32 2456956037)),.x 1 (.const (.int .u32 2730485921)),.x 1 (.const (.int .u32 2820302411)),.x 1 (.const (.int .u32 3259730800)),.x 1 (.const (.int .u32 3345764771)),.x 1 (.const (.int .u32 3516065817)),.x 1 (.const (.int .u32 3600352804)),.x 1 (.const (.int .u32 4094571909)),.x 1 (.const (.int .u32 275423344)),.x 1 (.const (.int .u32 430227734)),.x 1 (.const (.int .u32 506948616)),.x 1 (.const (.int .u32 659060556)),.x 1 (.const (.int .u32 883997877)),.x 1 (.const (.int .u32 958139571)),.x 1 (.const (.int .u32 1322822218)),.x 1 (.const (.int .u32 1537002063)),.x 1 (.const (.int .u32 1747873779)),.x 1 (.const (.int .u32 1955562222)),.x 1 (.const (.int .u32 2024104815)),.x 1 (.const (.int .u32 2227730452)),.x 1 (.const (.int .u32 2361852424)),.x 1 (.const (.int .u32 2428436474)),.x 1 (.const (.int .u32 2756734187)),.x 1 (.const (.int .u32 3204031479)),.x 1 (.const (.int .u32 3329325298))]) (qL 3 (.alloc 123 [(64,(.int .u32 0))]) (.l none none (.stN 64 (qt 3) (qt 20)) [] .done))) false 51 [0,2,3],
 .reg (qL 2 (.alloc 22 [(32,(.int .u8 0))]) .done) false 52 [0,2]
 ]
theorem c109_ok:qF 109=qR 228 53 c109:=by kernel_rfl
def c110:qN:=[
 .ret [.cN 2 32,.t 3],
 .ret [.cN 2 32,.t 3],
 .reg (qQ 48 (.ldN 32 (qt 4)) (.l none none (.stN 32 (qt 2) (qt 48)) [] (qQ 3 (.mov (.const (.bool true))) .done))) false 1 [2,3],
 .jmp 16,
 .reg (qQ 47 (.bin .add (qt 18) (qk 1)) (qQ 18 (.mov (qt 47)) .done)) false 3 [2,4,5,6,18],
 .reg (qQ 37 (.mov (qt 8)) (qQ 38 (.mov (qt 9)) (qQ 39 (.iadrA 32 1 (qt 4) (qt 37)) (.l none none (.st1 (qt 39) (qt 38)) [] .done)))) false 4 [2,4,5,6,18],
 .ret [.cN 2 32,.t 3],
 .reg (qQ 46 (.bld [.z [(32,(.int .u8 0))]]) (.l none none (.stN 32 (qt 2) (qt 46)) [] (qQ 3 (.mov (.const (.bool false))) .done))) false 6 [2,3],
 .cnd (qt 45) 7 4,
 .reg (qQ 40 (.mov (qt 8)) (qQ 41 (.bin .lss (qt 40) (qk 0)) (qQ 42 (.mov (qt 41)) (.q (some 43) (some (42,true)) (.mov (qt 9)) (.q (some 44) (some (42,true)) (.bin .neq (qt 43) (.const (.int .u8 0))) (qQ 45 (.pick (qt 42) (qt 44) (.const (.bool false))) .done)))))) false 8 [2,4,5,6,18,45],
 .cnd (qt 36) 5 9,
 .reg (qQ 31 (.mov (qt 8)) (qQ 32 (.bin .geq (qt 31) (qk 0)) (qQ 33 (.mov (qt 32)) (.q (some 34) (some (33,true)) (.mov (qt 8)) (.q (some 35) (some (33,true)) (.bin .lss (qt 34) (qk 32)) (qQ 36 (.pick (qt 33) (qt 35) (.const (.bool false))) .done)))))) false 10 [2,4,5,6,8,9,18,36],
 .reg (qQ 25 (.mov (qt 6)) (qQ 26 (.mov (qt 7)) (qQ 27 (.bin .mul (qk 8) (qt 26)) (qQ 28 (.bin .sub (qk 16) (qt 27)) (qQ 29 (.bin .shr (qt 25) (qt 28)) (qQ 30 (.cvi .u8 (qt 29)) (qQ 9 (.mov (qt 30)) .done))))))) false 11 [2,4,5,6,8,9,18],
 .reg (qQ 21 (.mov (qt 5)) (qQ 22 (.bin .sub (qk 32) (qt 21)) (qQ 23 (.mov (qt 7)) (qQ 24 (.bin .add (qt 22) (qt 23)) (qQ 8 (.mov (qt 24)) .done))))) false 12 [2,4,5,6,7,8,18],
 .reg (qQ 20 (.mov (qt 18)) (qQ 7 (.mov (qt 20)) .done)) false 13 [2,4,5,6,7,18],
 .cnd (qt 19) 14 2,
 .reg (qQ 19 (.bin .lss (qt 18) (qk 3)) .done) false 15 [2,4,5,6,18,19],
 .reg (qQ 18 (.mov (qk 0)) .done) false 16 [2,4,5,6,18],
 .ret [.cN 2 32,.t 3],
 .reg (qQ 17 (.ldN 32 (qt 4)) (.l none none (.stN 32 (qt 2) (qt 17)) [] (qQ 3 (.mov (.const (.bool false))) .done))) false 18 [2,3],
 .cnd (qt 16) 19 17,
 .reg (qQ 15 (.mov (qt 6)) (qQ 16 (.bin .geq (qt 15) (.const (.int .u32 8388608))) .done)) false 20 [2,4,5,6,16],
 .reg (qQ 10 (.mov (qt 0)) (qQ 11 (.bin .shr (qt 10) (.const (.int .u64 24))) (qQ 12 (.cvi .i64 (qt 11)) (qQ 13 (.mov (qt 0)) (qQ 14 (.bin .and (qt 13) (.const (.int .u32 16777215))) (qQ 5 (.mov (qt 12)) (qQ 6 (.mov (qt 14)) .done))))))) false 21 [2,4,5,6],
 .reg (qL 4 (.alloc 112 [(32,(.int .u8 0))]) .done) false 22 [0,2,4],
 .reg (qL 2 (.alloc 112 [(32,(.int .u8 0))]) (qQ 3 (.mov (.const (.bool false))) .done)) false 23 [0,2]
 ]
theorem c110_ok:qF 110=qR 49 24 c110:=by kernel_rfl
def c111:qN:=[
 .ret [.cN 0 32],
 .ret [.cN 0 32],
 .reg (qQ 7 (.ldN 32 (qt 1)) (.l none none (.stN 32 (qt 0) (qt 7)) [] .done)) false 1 [0],
 .reg (qL 4 (.call 110 [(.const (.int .u32 545259519))]) (qQ 3 (.mov (qt 4)) (qQ 5 (.ext 0 (qt 3)) (qQ 6 (.ext 1 (qt 3)) (qL 1 (.alloc 112 [(32,(.int .u8 0))]) (.l none none (.stN 32 (qt 1) (qt 5)) [] (qQ 2 (.mov (qt 6)) .done))))))) false 2 [0,1],
 .reg (qL 0 (.alloc 112 [(32,(.int .u8 0))]) .done) false 3 [0]
 ]
theorem c111_ok:qF 111=qR 8 4 c111:=by kernel_rfl
def c112:qN:=[
 .ret [.t 4],
 .ret [.t 4],
 .reg (qQ 5 (.mov (qt 0)) (qQ 6 (.mov (qt 1)) (qL 7 (.callx 133 [qt 5,qt 6]) (qQ 4 (.mov (qt 7)) .done)))) false 1 [4],
 .reg (qQ 4 (.mov (qk 0)) .done) false 2 [0,1]
 ]
theorem c112_ok:qF 112=qR 8 3 c112:=by kernel_rfl
def c113:qN:=[
 .ret [.t 2],
 .ret [.t 2],
 .reg (qQ 2 (.mov (.const (.bool false))) .done) false 1 [2],
 .jmp 10,
 .reg (qQ 9 (.mov (qt 3)) (qQ 10 (.bin .add (qt 9) (qk 1)) (qQ 3 (.mov (qt 10)) .done))) false 3 [1,3],
 .ret [.t 2],
 .reg (qQ 2 (.mov (.const (.bool true))) .done) false 5 [2],
 .cnd (qt 18) 6 4,
 .reg (qQ 11 (.fadr 1 (qt 1)) (qQ 12 (.ld1 (qt 11)) (qQ 13 (.mov (qt 3)) (qQ 14 (.iadrS 36 (qt 12) (qt 13)) (qQ 15 (.fadr 35 (qt 14)) (qQ 16 (.ld1 (qt 15)) (qQ 17 (.len (qt 16)) (qQ 18 (.bin .gtr (qt 17) (qk 0)) .done)))))))) false 7 [1,3,18],
 .cnd (qt 8) 8 2,
 .reg (qQ 4 (.mov (qt 3)) (qQ 5 (.fadr 1 (qt 1)) (qQ 6 (.ld1 (qt 5)) (qQ 7 (.len (qt 6)) (qQ 8 (.bin .lss (qt 4) (qt 7)) .done))))) false 9 [1,3,8],
 .reg (qQ 3 (.mov (qk 0)) .done) false 10 [1,3],
 .reg (qL 1 (.box 33 (qt 0)) (qQ 2 (.mov (.const (.bool false))) .done)) false 11 [1]
 ]
theorem c113_ok:qF 113=qR 19 12 c113:=by kernel_rfl
def c114:qN:=[
 .ret [.t 2],
 .ret [.t 2],
 .reg (qQ 58 (.mov (qt 3)) (qQ 2 (.mov (qt 58)) .done)) false 1 [2],
 .jmp 11,
 .reg (qQ 16 (.mov (qt 4)) (qQ 17 (.bin .add (qt 16) (qk 1)) (qQ 4 (.mov (qt 17)) .done))) false 3 [1,3,4],
 .reg (qQ 48 (.mov (qt 3)) (qQ 49 (.fadr 1 (qt 1)) (qQ 50 (.ld1 (qt 49)) (qQ 51 (.mov (qt 4)) (qQ 52 (.iadrS 36 (qt 50) (qt 51)) (qQ 53 (.fadr 34 (qt 52)) (qQ 54 (.ld1 (qt 53)) (qQ 55 (.cvi .u64 (qt 54)) (qL 56 (.call 59 [qt 55,qk 4]) (qL 57 (.app 5 1 1 [(1,(.int .u8 0))] (qt 48) (qt 56)) (qQ 3 (.mov (qt 57)) .done))))))))))) false 4 [1,3,4],
 .reg (qQ 39 (.mov (qt 3)) (qQ 40 (.fadr 1 (qt 1)) (qQ 41 (.ld1 (qt 40)) (qQ 42 (.mov (qt 4)) (qQ 43 (.iadrS 36 (qt 41) (qt 42)) (qQ 44 (.fadr 33 (qt 43)) (qQ 45 (.ld1 (qt 44)) (qL 46 (.call 69 [qt 45]) (qL 47 (.app 5 1 1 [(1,(.int .u8 0))] (qt 39) (qt 46)) (qQ 3 (.mov (qt 47)) .done)))))))))) false 5 [1,3,4],
 .reg (qQ 28 (.mov (qt 3)) (qQ 29 (.fadr 1 (qt 1)) (qQ 30 (.ld1 (qt 29)) (qQ 31 (.mov (qt 4)) (qQ 32 (.iadrS 36 (qt 30) (qt 31)) (qQ 33 (.fadr 0 (qt 32)) (qQ 34 (.fadr 32 (qt 33)) (qQ 35 (.ld1 (qt 34)) (qQ 36 (.cvi .u64 (qt 35)) (qL 37 (.call 59 [qt 36,qk 4]) (qL 38 (.app 5 1 1 [(1,(.int .u8 0))] (qt 28) (qt 37)) (qQ 3 (.mov (qt 38)) .done)))))))))))) false 6 [1,3,4],
 .reg (qQ 25 (.mov (qt 3)) (qQ 26 (.slcA 32 1 (qt 5) none none) (qL 27 (.app 5 1 1 [(1,(.int .u8 0))] (qt 25) (qt 26)) (qQ 3 (.mov (qt 27)) .done)))) false 7 [1,3,4],
 .reg (qQ 18 (.fadr 1 (qt 1)) (qQ 19 (.ld1 (qt 18)) (qQ 20 (.mov (qt 4)) (qQ 21 (.iadrS 36 (qt 19) (qt 20)) (qQ 22 (.fadr 0 (qt 21)) (qQ 23 (.fadr 0 (qt 22)) (qQ 24 (.ldN 32 (qt 23)) (qL 5 (.alloc 23 [(32,(.int .u8 0))]) (.l none none (.stN 32 (qt 5) (qt 24)) [] .done))))))))) false 8 [1,3,4,5],
 .cnd (qt 15) 9 2,
 .reg (qQ 11 (.mov (qt 4)) (qQ 12 (.fadr 1 (qt 1)) (qQ 13 (.ld1 (qt 12)) (qQ 14 (.len (qt 13)) (qQ 15 (.bin .lss (qt 11) (qt 14)) .done))))) false 10 [1,3,4,15],
 .reg (qQ 4 (.mov (qk 0)) .done) false 11 [1,3,4],
 .reg (qQ 6 (.fadr 1 (qt 1)) (qQ 7 (.ld1 (qt 6)) (qQ 8 (.len (qt 7)) (qQ 9 (.cvi .u64 (qt 8)) (qL 10 (.call 68 [qt 9]) (qQ 3 (.mov (qt 10)) .done)))))) false 12 [1,3],
 .reg (qL 1 (.box 33 (qt 0)) (qQ 2 (.mov (.const (.slice none 0 0))) .done)) false 13 [1]
 ]
theorem c114_ok:qF 114=qR 59 14 c114:=by kernel_rfl
def c115:qN:=[
 .ret [.t 2],
 .ret [.t 2],
 .reg (qQ 36 (.mov (qt 3)) (qQ 2 (.mov (qt 36)) .done)) false 1 [2],
 .jmp 8,
 .reg (qQ 15 (.mov (qt 4)) (qQ 16 (.bin .add (qt 15) (qk 1)) (qQ 4 (.mov (qt 16)) .done))) false 3 [1,3,4],
 .reg (qQ 27 (.mov (qt 3)) (qQ 28 (.fadr 2 (qt 1)) (qQ 29 (.ld1 (qt 28)) (qQ 30 (.mov (qt 4)) (qQ 31 (.iadrS 2 (qt 29) (qt 30)) (qQ 32 (.fadr 1 (qt 31)) (qQ 33 (.ld1 (qt 32)) (qL 34 (.call 69 [qt 33]) (qL 35 (.app 5 1 1 [(1,(.int .u8 0))] (qt 27) (qt 34)) (qQ 3 (.mov (qt 35)) .done)))))))))) false 4 [1,3,4],
 .reg (qQ 17 (.mov (qt 3)) (qQ 18 (.fadr 2 (qt 1)) (qQ 19 (.ld1 (qt 18)) (qQ 20 (.mov (qt 4)) (qQ 21 (.iadrS 2 (qt 19) (qt 20)) (qQ 22 (.fadr 0 (qt 21)) (qQ 23 (.ld1 (qt 22)) (qQ 24 (.cvi .u64 (qt 23)) (qL 25 (.call 59 [qt 24,qk 8]) (qL 26 (.app 5 1 1 [(1,(.int .u8 0))] (qt 17) (qt 25)) (qQ 3 (.mov (qt 26)) .done))))))))))) false 5 [1,3,4],
 .cnd (qt 14) 6 2,
 .reg (qQ 10 (.mov (qt 4)) (qQ 11 (.fadr 2 (qt 1)) (qQ 12 (.ld1 (qt 11)) (qQ 13 (.len (qt 12)) (qQ 14 (.bin .lss (qt 10) (qt 13)) .done))))) false 7 [1,3,4,14],
 .reg (qQ 4 (.mov (qk 0)) .done) false 8 [1,3,4],
 .reg (qQ 5 (.fadr 2 (qt 1)) (qQ 6 (.ld1 (qt 5)) (qQ 7 (.len (qt 6)) (qQ 8 (.cvi .u64 (qt 7)) (qL 9 (.call 68 [qt 8]) (qQ 3 (.mov (qt 9)) .done)))))) false 9 [1,3],
 .reg (qL 1 (.box 33 (qt 0)) (qQ 2 (.mov (.const (.slice none 0 0))) .done)) false 10 [1]
 ]
theorem c115_ok:qF 115=qR 37 11 c115:=by kernel_rfl
def c116:qN:=[
 .ret [.t 4],
 .ret [.t 4],
 .reg (qQ 5 (.mov (qt 0)) (qQ 6 (.mov (qt 1)) (qQ 7 (.neg (qt 6)) (qL 8 (.call 134 [qt 5,qt 7]) (qQ 4 (.mov (qt 8)) .done))))) false 1 [4],
 .reg (qQ 4 (.mov (.const (.int .u32 0))) .done) false 2 [0,1]
 ]
theorem c116_ok:qF 116=qR 9 3 c116:=by kernel_rfl
def c117:qN:=[
 .ret [.t 2],
 .ret [.t 2],
 .reg (qL 5 (.bldS 5 1 []) (qQ 6 (.mov (qt 0)) (qL 7 (.app 5 1 1 [(1,(.int .u8 0))] (qt 5) (qt 6)) (qQ 2 (.mov (qt 7)) .done)))) false 1 [2],
 .ret [.t 2],
 .reg (qQ 2 (.mov (.const (.slice none 0 0))) .done) false 3 [2],
 .cnd (qt 4) 4 2,
 .reg (qQ 3 (.mov (qt 0)) (qQ 4 (.eqS false (qt 3) (.const (.slice none 0 0))) .done)) false 5 [0,4],
 .reg (qQ 2 (.mov (.const (.slice none 0 0))) .done) false 6 [0]
 ]
theorem c117_ok:qF 117=qR 8 7 c117:=by kernel_rfl
def c118:qN:=[
 .ret [.t 6],
 .ret [.t 6],
 .reg (qQ 56 (.mov (qt 8)) (qQ 6 (.mov (qt 56)) .done)) false 1 [6],
 .reg (qQ 48 (.mov (qt 8)) (qQ 49 (.mov (qt 8)) (qQ 50 (.len (qt 49)) (qQ 51 (.bin .sub (qt 50) (qk 9)) (qQ 52 (.mov (qt 0)) (qQ 53 (.bin .shr (qt 52) (.const (.int .u64 61))) (qQ 54 (.cvi .u8 (qt 53)) (qQ 55 (.iadrS 1 (qt 48) (qt 51)) (.l none none (.st1 (qt 55) (qt 54)) [] .done))))))))) false 2 [8],
 .cnd (qt 47) 3 2,
 .reg (qQ 46 (.mov (qt 2)) (qQ 47 (.bin .gtr (qt 46) (qk 8)) .done)) false 4 [0,8,47],
 .jmp 11,
 .reg (qQ 45 (.bin .add (qt 29) (qk 1)) (qQ 29 (.mov (qt 45)) .done)) false 6 [0,2,8,29],
 .reg (qQ 32 (.mov (qt 8)) (qQ 33 (.mov (qt 8)) (qQ 34 (.len (qt 33)) (qQ 35 (.bin .sub (qt 34) (qk 1)) (qQ 36 (.mov (qt 9)) (qQ 37 (.bin .sub (qt 35) (qt 36)) (qQ 38 (.mov (qt 0)) (qQ 39 (.bin .shl (qt 38) (.const (.int .u64 3))) (qQ 40 (.mov (qt 9)) (qQ 41 (.bin .mul (qk 8) (qt 40)) (qQ 42 (.bin .shr (qt 39) (qt 41)) (qQ 43 (.cvi .u8 (qt 42)) (qQ 44 (.iadrS 1 (qt 32) (qt 37)) (.l none none (.st1 (qt 44) (qt 43)) [] .done)))))))))))))) false 7 [0,2,8,29],
 .reg (qQ 31 (.mov (qt 29)) (qQ 9 (.mov (qt 31)) .done)) false 8 [0,2,8,9,29],
 .cnd (qt 30) 9 5,
 .reg (qQ 30 (.bin .lss (qt 29) (qk 8)) .done) false 10 [0,2,8,29,30],
 .reg (qQ 29 (.mov (qk 0)) .done) false 11 [0,2,8,29],
 .reg (qQ 27 (.mov (qt 8)) (qQ 28 (.iadrS 1 (qt 27) (qk 0)) (.l none none (.st1 (qt 28) (.const (.int .u8 128))) [] .done))) false 12 [0,2,8],
 .reg (qQ 22 (.mov (qt 7)) (qQ 23 (.bin .add (qk 1) (qt 22)) (qQ 24 (.mov (qt 2)) (qQ 25 (.bin .add (qt 23) (qt 24)) (qL 26 (.mkS 5 1 1 [(1,(.int .u8 0))] (qt 25) (qt 25)) (qQ 8 (.mov (qt 26)) .done)))))) false 13 [0,2,8],
 .reg (qQ 10 (.mov (qt 1)) (qQ 11 (.bin .sub (qt 10) (qk 1)) (qQ 12 (.mov (qt 0)) (qQ 13 (.mov (qt 1)) (qQ 14 (.cvi .u64 (qt 13)) (qQ 15 (.bin .rem (qt 12) (qt 14)) (qQ 16 (.cvi .i64 (qt 15)) (qQ 17 (.mov (qt 2)) (qQ 18 (.bin .add (qt 16) (qt 17)) (qQ 19 (.mov (qt 1)) (qQ 20 (.bin .rem (qt 18) (qt 19)) (qQ 21 (.bin .sub (qt 11) (qt 20)) (qQ 7 (.mov (qt 21)) .done))))))))))))) false 14 [0,2,7],
 .reg (qQ 6 (.mov (.const (.slice none 0 0))) .done) false 15 [0,1,2]
 ]
theorem c118_ok:qF 118=qR 57 16 c118:=by kernel_rfl
def c119:qN:=[
 .ret [.c1 4],
 .ret [.c1 4],
 .reg (qQ 16 (.mov (qt 1)) (qQ 17 (.ld1 (qt 2)) (qL 18 (.callv (qt 16) [qt 17]) (.l none none (.st1 (qt 4) (qt 18)) [] .done)))) false 1 [4],
 .ret [.c1 4],
 .cnd (qt 15) 3 2,
 .reg (qQ 11 (.ld1 (qt 2)) (qQ 12 (.nc (qt 11)) (qQ 13 (.fadr 1 (qt 12)) (qQ 14 (.ld1 (qt 13)) (qQ 15 (.bin .neq (qt 14) (qk 0)) .done))))) false 4 [1,2,4,15],
 .dfr 10 135 [qt 5,qt 2,qt 4] 5 [1,2,4],
 .reg (qQ 6 (.ld1 (qt 2)) (qQ 7 (.nc (qt 6)) (qQ 8 (.fadr 0 (qt 7)) (qQ 9 (.ld1 (qt 8)) (qL 5 (.alloc 41 [(1,(.slice none 0 0))]) (.l none none (.st1 (qt 5) (qt 9)) [] .done)))))) false 6 [1,2,4,5],
 .reg (qL 2 (.box 84 (qt 0)) (qL 4 (.alloc 24 [(1,(.int .u32 0))]) .done)) false 7 [1,2,4]
 ]
theorem c119_ok:qF 119=qR 19 8 c119:=by kernel_rfl
def c120:qN:=[
 .ret [.t 2],
 .ret [.t 2],
 .reg (qQ 3 (.mov (qt 0)) (qL 4 (.call 121 [qt 3,qk 4]) (qQ 5 (.cvi .u32 (qt 4)) (qQ 2 (.mov (qt 5)) .done)))) false 1 [2],
 .reg (qQ 2 (.mov (.const (.int .u32 0))) .done) false 2 [0]
 ]
theorem c120_ok:qF 120=qR 6 3 c120:=by kernel_rfl
def c121:qN:=[
 .ret [.t 4],
 .ret [.t 4],
 .reg (qQ 25 (.mov (qt 5)) (qQ 4 (.mov (qt 25)) .done)) false 1 [4],
 .jmp 8,
 .reg (qQ 24 (.bin .add (qt 12) (qk 1)) (qQ 12 (.mov (qt 24)) .done)) false 3 [5,10,11,12],
 .reg (qQ 17 (.mov (qt 5)) (qQ 18 (.mov (qt 7)) (qQ 19 (.cvi .u64 (qt 18)) (qQ 20 (.mov (qt 6)) (qQ 21 (.bin .mul (qk 8) (qt 20)) (qQ 22 (.bin .shl (qt 19) (qt 21)) (qQ 23 (.bin .or (qt 17) (qt 22)) (qQ 5 (.mov (qt 23)) .done)))))))) false 4 [5,10,11,12],
 .reg (qQ 14 (.mov (qt 12)) (qQ 15 (.iadrS 1 (qt 10) (qt 12)) (qQ 16 (.ld1 (qt 15)) (qQ 6 (.mov (qt 14)) (qQ 7 (.mov (qt 16)) .done))))) false 5 [5,6,7,10,11,12],
 .cnd (qt 13) 6 2,
 .reg (qQ 13 (.bin .lss (qt 12) (qt 11)) .done) false 7 [5,10,11,12,13],
 .reg (qQ 8 (.mov (qt 0)) (qQ 9 (.mov (qt 1)) (qL 10 (.call 86 [qt 8,qt 9]) (qQ 11 (.len (qt 10)) (qQ 12 (.mov (qk 0)) .done))))) false 8 [5,10,11,12],
 .reg (qQ 5 (.mov (.const (.int .u64 0))) .done) false 9 [0,1,5],
 .reg (qQ 4 (.mov (.const (.int .u64 0))) .done) false 10 [0,1]
 ]
theorem c121_ok:qF 121=qR 26 11 c121:=by kernel_rfl
def c122:qN:=[
 .ret [.t 3],
 .ret [.t 3],
 .reg (qQ 4 (.mov (qt 0)) (qQ 5 (.ld1 (qt 1)) (qQ 6 (.max [qt 5,qk 0]) (qL 7 (.call 86 [qt 4,qt 6]) (qL 8 (.call 79 [qt 7]) (qQ 3 (.mov (qt 8)) .done)))))) false 1 [3],
 .reg (qQ 3 (.mov (.const (.slice none 0 0))) .done) false 2 [0,1]
 ]
theorem c122_ok:qF 122=qR 9 3 c122:=by kernel_rfl
def c123:qN:=[
 .ret [],
 .reg (qQ 18 (.ld1 (qt 1)) (qQ 19 (.ld1 (qt 1)) (qQ 20 (.ld1 (qt 0)) (qQ 21 (.mov (qt 4)) (qQ 22 (.mov (qt 6)) (qQ 23 (.nc (qt 18)) (qQ 24 (.fadr 0 (qt 23)) (.l none none (.st1 (qt 24) (qt 20)) [] (qQ 25 (.nc (qt 19)) (qQ 26 (.fadr 1 (qt 25)) (.l none none (.st1 (qt 26) (qt 21)) [] (.l none none (.st1 (qt 2) (qt 22)) [] .done)))))))))))) false 0 [],
 .reg (qQ 6 (.mov (.const (.int .u64 0))) .done) false 1 [0,1,2,4,6],
 .reg (qQ 17 (.mov (qt 3)) (.l none none (.pan (qt 17)) [] .done)) false 2 [0,1,2,4],
 .cnd (qt 16) 3 2,
 .reg (qQ 15 (.mov (qt 5)) (qQ 16 (.not (qt 15)) .done)) false 4 [0,1,2,3,4,16],
 .reg (qQ 11 (.mov (qt 3)) (qQ 12 (.tas 135 .i64 (qt 11)) (qQ 10 (.mov (qt 12)) (qQ 13 (.ext 0 (qt 10)) (qQ 14 (.ext 1 (qt 10)) (qQ 4 (.mov (qt 13)) (qQ 5 (.mov (qt 14)) .done))))))) false 5 [0,1,2,3,4,5],
 .cnd (qt 9) 6 0,
 .reg (qQ 8 (.mov (qt 3)) (qQ 9 (.eqI true (qt 8) (.const .nilIface)) .done)) false 7 [0,1,2,3,9],
 .rcv 7 3 8 [0,1,2,3]
 ]
theorem c123_ok:qF 123=qR 27 9 c123:=by kernel_rfl
def c124:qN:=[
 .ret [.t 2],
 .ret [.t 2],
 .reg (qQ 3 (.mov (qt 0)) (qL 4 (.call 87 [qt 3]) (qQ 5 (.bin .add (qt 4) (qk 1)) (qQ 2 (.mov (qt 5)) .done)))) false 1 [2],
 .reg (qQ 2 (.mov (qk 0)) .done) false 2 [0]
 ]
theorem c124_ok:qF 124=qR 6 3 c124:=by kernel_rfl
def c125:qN:=[
 .ret [],
 .reg (qQ 18 (.ld1 (qt 1)) (qQ 19 (.ld1 (qt 1)) (qQ 20 (.ld1 (qt 0)) (qQ 21 (.mov (qt 4)) (qQ 22 (.mov (qt 6)) (qQ 23 (.nc (qt 18)) (qQ 24 (.fadr 0 (qt 23)) (.l none none (.st1 (qt 24) (qt 20)) [] (qQ 25 (.nc (qt 19)) (qQ 26 (.fadr 1 (qt 25)) (.l none none (.st1 (qt 26) (qt 21)) [] (.l none none (.st1 (qt 2) (qt 22)) [] .done)))))))))))) false 0 [],
 .reg (qQ 6 (.mov (.const (.slice none 0 0))) .done) false 1 [0,1,2,4,6],
 .reg (qQ 17 (.mov (qt 3)) (.l none none (.pan (qt 17)) [] .done)) false 2 [0,1,2,4],
 .cnd (qt 16) 3 2,
 .reg (qQ 15 (.mov (qt 5)) (qQ 16 (.not (qt 15)) .done)) false 4 [0,1,2,3,4,16],
 .reg (qQ 11 (.mov (qt 3)) (qQ 12 (.tas 135 .i64 (qt 11)) (qQ 10 (.mov (qt 12)) (qQ 13 (.ext 0 (qt 10)) (qQ 14 (.ext 1 (qt 10)) (qQ 4 (.mov (qt 13)) (qQ 5 (.mov (qt 14)) .done))))))) false 5 [0,1,2,3,4,5],
 .cnd (qt 9) 6 0,
 .reg (qQ 8 (.mov (qt 3)) (qQ 9 (.eqI true (qt 8) (.const .nilIface)) .done)) false 7 [0,1,2,3,9],
 .rcv 7 3 8 [0,1,2,3]
 ]
theorem c125_ok:qF 125=qR 27 9 c125:=by kernel_rfl
def c126:qN:=[
 .ret [.c1 4],
 .ret [.c1 4],
 .reg (qQ 16 (.mov (qt 1)) (qQ 17 (.ld1 (qt 2)) (qL 18 (.callv (qt 16) [qt 17]) (.l none none (.st1 (qt 4) (qt 18)) [] .done)))) false 1 [4],
 .ret [.c1 4],
 .cnd (qt 15) 3 2,
 .reg (qQ 11 (.ld1 (qt 2)) (qQ 12 (.nc (qt 11)) (qQ 13 (.fadr 1 (qt 12)) (qQ 14 (.ld1 (qt 13)) (qQ 15 (.bin .neq (qt 14) (qk 0)) .done))))) false 4 [1,2,4,15],
 .dfr 10 136 [qt 5,qt 2,qt 4] 5 [1,2,4],
 .reg (qQ 6 (.ld1 (qt 2)) (qQ 7 (.nc (qt 6)) (qQ 8 (.fadr 0 (qt 7)) (qQ 9 (.ld1 (qt 8)) (qL 5 (.alloc 41 [(1,(.slice none 0 0))]) (.l none none (.st1 (qt 5) (qt 9)) [] .done)))))) false 6 [1,2,4,5],
 .reg (qL 2 (.box 84 (qt 0)) (qL 4 (.alloc 5 [(1,(.int .u8 0))]) .done)) false 7 [1,2,4]
 ]
theorem c126_ok:qF 126=qR 19 8 c126:=by kernel_rfl
def c127:qN:=[
 .ret [.t 2],
 .ret [.t 2],
 .reg (qQ 3 (.mov (qt 0)) (qL 4 (.call 121 [qt 3,qk 1]) (qQ 5 (.cvi .u8 (qt 4)) (qQ 2 (.mov (qt 5)) .done)))) false 1 [2],
 .reg (qQ 2 (.mov (.const (.int .u8 0))) .done) false 2 [0]
 ]
theorem c127_ok:qF 127=qR 6 3 c127:=by kernel_rfl
def c128:qN:=[
 .ret [.t 2],
 .ret [.t 2],
 .reg (qQ 3 (.mov (qt 0)) (qL 4 (.call 82 [qt 3,(.func 137)]) (qQ 2 (.mov (qt 4)) .done))) false 1 [2],
 .reg (qQ 2 (.mov (.const (.int .u64 0))) .done) false 2 [0]
 ]
theorem c128_ok:qF 128=qR 5 3 c128:=by kernel_rfl
def c129:qN:=[
 .ret [.t 4],
 .ret [.t 4],
 .reg (qQ 4 (.mov (.const (.int .i64 (-1)))) .done) false 1 [4],
 .jmp 11,
 .reg (qQ 18 (.bin .add (qt 8) (qk 1)) (qQ 8 (.mov (qt 18)) .done)) false 3 [0,1,7,8],
 .ret [.t 4],
 .reg (qQ 17 (.mov (qt 5)) (qQ 4 (.mov (qt 17)) .done)) false 5 [4],
 .cnd (qt 16) 6 4,
 .reg (qQ 11 (.mov (qt 1)) (qQ 12 (.mov (qt 0)) (qQ 13 (.mov (qt 5)) (qQ 14 (.iadrS 36 (qt 12) (qt 13)) (qQ 15 (.ldN 36 (qt 14)) (qL 16 (.callv (qt 11) [qt 15]) .done)))))) false 7 [0,1,5,7,8,16],
 .reg (qQ 10 (.mov (qt 8)) (qQ 5 (.mov (qt 10)) .done)) false 8 [0,1,5,7,8],
 .cnd (qt 9) 9 2,
 .reg (qQ 9 (.bin .lss (qt 8) (qt 7)) .done) false 10 [0,1,7,8,9],
 .reg (qQ 6 (.mov (qt 0)) (qQ 7 (.len (qt 6)) (qQ 8 (.mov (qk 0)) .done))) false 11 [0,1,7,8],
 .reg (qQ 4 (.mov (qk 0)) .done) false 12 [0,1]
 ]
theorem c129_ok:qF 129=qR 19 13 c129:=by kernel_rfl
def c131:qN:=[
 .ret [.t 8],
 .ret [.t 8],
 .reg (qQ 71 (.mov (qt 9)) (qQ 8 (.mov (qt 71)) .done)) false 1 [8],
 .jmp 10,
 .reg (qQ 51 (.mov (qt 13)) (qQ 52 (.bin .add (qt 51) (qk 1)) (qQ 13 (.mov (qt 52)) .done))) false 3 [2,3,9,11,13],
 .reg (qQ 54 (.mov (qt 9)) (qQ 55 (.mov (qt 11)) (qQ 56 (.mov (qt 13)) (qQ 57 (.iadrS 1 (qt 55) (qt 56)) (qQ 58 (.ld1 (qt 57)) (qL 59 (.bldS 5 1 [qt 58]) (qL 60 (.app 5 1 1 [(1,(.int .u8 0))] (qt 54) (qt 59)) (qQ 9 (.mov (qt 60)) .done)))))))) false 4 [2,3,9,11,13],
 .reg (qQ 61 (.mov (qt 9)) (qQ 62 (.mov (qt 11)) (qQ 63 (.mov (qt 2)) (qQ 64 (.bin .sub (qt 63) (qk 1)) (qQ 65 (.mov (qt 13)) (qQ 66 (.bin .sub (qt 64) (qt 65)) (qQ 67 (.iadrS 1 (qt 62) (qt 66)) (qQ 68 (.ld1 (qt 67)) (qL 69 (.bldS 5 1 [qt 68]) (qL 70 (.app 5 1 1 [(1,(.int .u8 0))] (qt 61) (qt 69)) (qQ 9 (.mov (qt 70)) .done))))))))))) false 4 [2,3,9,11,13],
 .cnd (qt 53) 5 6,
 .reg (qQ 53 (.mov (qt 3)) .done) false 7 [2,3,9,11,13,53],
 .cnd (qt 50) 8 2,
 .reg (qQ 48 (.mov (qt 13)) (qQ 49 (.mov (qt 2)) (qQ 50 (.bin .lss (qt 48) (qt 49)) .done))) false 9 [2,3,9,11,13,50],
 .reg (qQ 13 (.mov (qk 0)) .done) false 10 [2,3,9,11,13],
 .jmp 17,
 .reg (qQ 38 (.mov (qt 12)) (qQ 39 (.bin .add (qt 38) (qk 1)) (qQ 12 (.mov (qt 39)) .done))) false 12 [2,3,9,10,11,12],
 .reg (qQ 46 (.mov (qt 10)) (qQ 47 (.bin .quo (qt 46) (.const (.int .u64 256))) (qQ 10 (.mov (qt 47)) .done))) false 13 [2,3,9,10,11,12],
 .reg (qQ 40 (.mov (qt 11)) (qQ 41 (.mov (qt 10)) (qQ 42 (.bin .rem (qt 41) (.const (.int .u64 256))) (qQ 43 (.cvi .u8 (qt 42)) (qL 44 (.bldS 5 1 [qt 43]) (qL 45 (.app 5 1 1 [(1,(.int .u8 0))] (qt 40) (qt 44)) (qQ 11 (.mov (qt 45)) .done))))))) false 14 [2,3,9,10,11,12],
 .cnd (qt 37) 15 11,
 .reg (qQ 35 (.mov (qt 12)) (qQ 36 (.mov (qt 2)) (qQ 37 (.bin .lss (qt 35) (qt 36)) .done))) false 16 [2,3,9,10,11,12,37],
 .reg (qQ 12 (.mov (qk 0)) .done) false 17 [2,3,9,10,11,12],
 .reg (qQ 11 (.mov (.const (.slice none 0 0))) .done) false 18 [2,3,9,10,11],
 .reg (qQ 31 (.mov (qt 0)) (qQ 32 (.len (qt 31)) (qQ 33 (.cvi .u64 (qt 32)) (qQ 34 (.bin .mul (qt 33) (.const (.int .u64 8))) (qQ 10 (.mov (qt 34)) .done))))) false 19 [2,3,9,10],
 .jmp 24,
 .reg (qQ 28 (.mov (qt 9)) (qL 29 (.bldS 5 1 [(.const (.int .u8 0))]) (qL 30 (.app 5 1 1 [(1,(.int .u8 0))] (qt 28) (qt 29)) (qQ 9 (.mov (qt 30)) .done)))) false 21 [0,1,2,3,9],
 .cnd (qt 27) 22 20,
 .reg (qQ 20 (.mov (qt 9)) (qQ 21 (.len (qt 20)) (qQ 22 (.mov (qt 1)) (qQ 23 (.bin .rem (qt 21) (qt 22)) (qQ 24 (.mov (qt 1)) (qQ 25 (.mov (qt 2)) (qQ 26 (.bin .sub (qt 24) (qt 25)) (qQ 27 (.bin .neq (qt 23) (qt 26)) .done)))))))) false 23 [0,1,2,3,9,27],
 .reg (qQ 17 (.mov (qt 9)) (qL 18 (.bldS 5 1 [(.const (.int .u8 128))]) (qL 19 (.app 5 1 1 [(1,(.int .u8 0))] (qt 17) (qt 18)) (qQ 9 (.mov (qt 19)) .done)))) false 24 [0,1,2,3,9],
 .reg (qL 14 (.bldS 5 1 []) (qQ 15 (.mov (qt 0)) (qL 16 (.app 5 1 1 [(1,(.int .u8 0))] (qt 14) (qt 15)) (qQ 9 (.mov (qt 16)) .done)))) false 25 [0,1,2,3,9],
 .reg (qQ 8 (.mov (.const (.slice none 0 0))) .done) false 26 [0,1,2,3]
 ]
theorem c131_ok:qF 131=qR 72 27 c131:=by kernel_rfl
def c132:qN:=[
 .ret [.t 4],
 .ret [.t 4],
 .reg (qQ 5 (.mov (qt 0)) (qQ 6 (.mov (qt 1)) (qQ 7 (.cvi .u64 (qt 6)) (qQ 8 (.bin .shl (qt 5) (qt 7)) (qQ 9 (.mov (qt 0)) (qQ 10 (.mov (qt 1)) (qQ 11 (.bin .sub (qk 32) (qt 10)) (qQ 12 (.cvi .u64 (qt 11)) (qQ 13 (.bin .shr (qt 9) (qt 12)) (qQ 14 (.bin .or (qt 8) (qt 13)) (qQ 4 (.mov (qt 14)) .done))))))))))) false 1 [4],
 .reg (qQ 4 (.mov (.const (.int .u32 0))) .done) false 2 [0,1]
 ]
theorem c132_ok:qF 132=qR 15 3 c132:=by kernel_rfl
def c134:qN:=[
 .ret [.t 4],
 .ret [.t 4],
 .reg (qQ 9 (.mov (qt 0)) (qQ 10 (.mov (qt 5)) (qQ 11 (.bin .shl (qt 9) (qt 10)) (qQ 12 (.mov (qt 0)) (qQ 13 (.mov (qt 5)) (qQ 14 (.bin .sub (.const (.int .u64 32)) (qt 13)) (qQ 15 (.bin .shr (qt 12) (qt 14)) (qQ 16 (.bin .or (qt 11) (qt 15)) (qQ 4 (.mov (qt 16)) .done))))))))) false 1 [4],
 .reg (qQ 6 (.mov (qt 1)) (qQ 7 (.cvi .u64 (qt 6)) (qQ 8 (.bin .and (qt 7) (.const (.int .u64 31))) (qQ 5 (.mov (qt 8)) .done)))) false 2 [0,5],
 .reg (qQ 4 (.mov (.const (.int .u32 0))) .done) false 3 [0,1]
 ]
theorem c134_ok:qF 134=qR 17 4 c134:=by kernel_rfl
def c135:qN:=[
 .ret [],
 .reg (qQ 18 (.ld1 (qt 1)) (qQ 19 (.ld1 (qt 1)) (qQ 20 (.ld1 (qt 0)) (qQ 21 (.mov (qt 4)) (qQ 22 (.mov (qt 6)) (qQ 23 (.nc (qt 18)) (qQ 24 (.fadr 0 (qt 23)) (.l none none (.st1 (qt 24) (qt 20)) [] (qQ 25 (.nc (qt 19)) (qQ 26 (.fadr 1 (qt 25)) (.l none none (.st1 (qt 26) (qt 21)) [] (.l none none (.st1 (qt 2) (qt 22)) [] .done)))))))))))) false 0 [],
 .reg (qQ 6 (.mov (.const (.int .u32 0))) .done) false 1 [0,1,2,4,6],
 .reg (qQ 17 (.mov (qt 3)) (.l none none (.pan (qt 17)) [] .done)) false 2 [0,1,2,4],
 .cnd (qt 16) 3 2,
 .reg (qQ 15 (.mov (qt 5)) (qQ 16 (.not (qt 15)) .done)) false 4 [0,1,2,3,4,16],
 .reg (qQ 11 (.mov (qt 3)) (qQ 12 (.tas 135 .i64 (qt 11)) (qQ 10 (.mov (qt 12)) (qQ 13 (.ext 0 (qt 10)) (qQ 14 (.ext 1 (qt 10)) (qQ 4 (.mov (qt 13)) (qQ 5 (.mov (qt 14)) .done))))))) false 5 [0,1,2,3,4,5],
 .cnd (qt 9) 6 0,
 .reg (qQ 8 (.mov (qt 3)) (qQ 9 (.eqI true (qt 8) (.const .nilIface)) .done)) false 7 [0,1,2,3,9],
 .rcv 7 3 8 [0,1,2,3]
 ]
theorem c135_ok:qF 135=qR 27 9 c135:=by kernel_rfl
def c136:qN:=[
 .ret [],
 .reg (qQ 18 (.ld1 (qt 1)) (qQ 19 (.ld1 (qt 1)) (qQ 20 (.ld1 (qt 0)) (qQ 21 (.mov (qt 4)) (qQ 22 (.mov (qt 6)) (qQ 23 (.nc (qt 18)) (qQ 24 (.fadr 0 (qt 23)) (.l none none (.st1 (qt 24) (qt 20)) [] (qQ 25 (.nc (qt 19)) (qQ 26 (.fadr 1 (qt 25)) (.l none none (.st1 (qt 26) (qt 21)) [] (.l none none (.st1 (qt 2) (qt 22)) [] .done)))))))))))) false 0 [],
 .reg (qQ 6 (.mov (.const (.int .u8 0))) .done) false 1 [0,1,2,4,6],
 .reg (qQ 17 (.mov (qt 3)) (.l none none (.pan (qt 17)) [] .done)) false 2 [0,1,2,4],
 .cnd (qt 16) 3 2,
 .reg (qQ 15 (.mov (qt 5)) (qQ 16 (.not (qt 15)) .done)) false 4 [0,1,2,3,4,16],
 .reg (qQ 11 (.mov (qt 3)) (qQ 12 (.tas 135 .i64 (qt 11)) (qQ 10 (.mov (qt 12)) (qQ 13 (.ext 0 (qt 10)) (qQ 14 (.ext 1 (qt 10)) (qQ 4 (.mov (qt 13)) (qQ 5 (.mov (qt 14)) .done))))))) false 5 [0,1,2,3,4,5],
 .cnd (qt 9) 6 0,
 .reg (qQ 8 (.mov (qt 3)) (qQ 9 (.eqI true (qt 8) (.const .nilIface)) .done)) false 7 [0,1,2,3,9],
 .rcv 7 3 8 [0,1,2,3]
 ]
theorem c136_ok:qF 136=qR 27 9 c136:=by kernel_rfl
def c137:qN:=[
 .ret [.t 2],
 .ret [.t 2],
 .reg (qQ 3 (.mov (qt 0)) (qL 4 (.call 121 [qt 3,qk 8]) (qQ 2 (.mov (qt 4)) .done))) false 1 [2],
 .reg (qQ 2 (.mov (.const (.int .u64 0))) .done) false 2 [0]
 ]
theorem c137_ok:qF 137=qR 5 3 c137:=by kernel_rfl
end Go.Proofs
namespace Go.Proofs
open Go.Vc
set_option maxRecDepth 10000
def bv (bs:List Int):List Value:=bs.map (.int .u8)
theorem bv_len (bs:List Int):(bv bs).length=bs.length:=by simp [bv]
theorem bv_app (a b:List Int):bv (a++b)=bv a++bv b:=by simp [bv]
theorem bv_flat (bs:List Int):flat (bv bs).toArray:=by
 intro v hv;simp [bv] at hv;obtain⟨_,_,rfl⟩:=hv;rfl
theorem bv_inj {a b:List Int}:bv a=bv b↔a=b:=by
 constructor
 ·intro h
  exact List.map_inj_right (f:=Value.int .u8) (fun x y h=>by cases h;rfl)|>.1 h
 ·rintro rfl;rfl
theorem bv_get {bs:List Int}{i:Nat}(h:i<bs.length):(bv bs)[i]?=some (.int .u8 bs[i]):=by simp [bv,h]
def byt (bs:List Int):Prop:=∀b∈bs,0≤b∧b≤255
theorem byt_app {a b:List Int}(h:byt a)(k:byt b):byt (a++b):=by
 intro x hx;rcases List.mem_append.1 hx with hx|hx;exact h x hx;exact k x hx
theorem byt_take {a:List Int}(h:byt a)(n:Nat):byt (a.take n):=fun x hx=>h x (List.mem_of_mem_take hx)
theorem byt_drop {a:List Int}(h:byt a)(n:Nat):byt (a.drop n):=fun x hx=>h x (List.mem_of_mem_drop hx)
theorem byt_nil:byt []:=fun _ h=>by cases h
structure Rd (w:World)(v:Value)(bs:List Int):Prop where
 is:∃q c,v=.slice q bs.length c∧bs.length≤c
 mx:bs.length≤maxLen
 rd:rdS w 1 v=some (bv bs).toArray
theorem Rd.keep {S:Nat→Prop}{w w':World}{v:Value}{bs:List Int}(h:Rd w v bs)(k:Keep S w w')(hS:∀q n c,v=.slice (some q) n c→¬S q.block):Rd w' v bs:=by
 obtain⟨⟨q,c,rfl,hc⟩,hm,hr⟩:=h
 refine⟨⟨q,c,rfl,hc⟩,hm,?_⟩
 simp only[rdS] at hr⊢
 split
 ·rename_i h0;rw[if_pos h0] at hr;exact hr
 ·rename_i h0
  rw[if_neg h0] at hr
  split at hr
  ·rename_i b o
   rw[rdN_heap] at hr⊢
   cases hb:w.heap[b]? with
   |none=>rw[hb] at hr;cases hr
   |some x=>
    have hk:=k.at hb (hS _ _ _ rfl)
    simp only[hk]
    rw[hb] at hr;exact hr
  ·cases hr
theorem Rd.ext {w w':World}{v:Value}{bs:List Int}(h:Rd w v bs)(k:Ext w w'):Rd w' v bs:=h.keep k fun _ _ _ _ h=>h
theorem Rd.len {w:World}{v:Value}{bs:List Int}(h:Rd w v bs):lenR v=some (.int .i64 bs.length):=by
 obtain⟨⟨q,c,rfl,_⟩,_,_⟩:=h;rfl
theorem Rd.one {w:World}{v:Value}{bs:List Int}(h:Rd w v bs):v.oneCell'=true:=by
 obtain⟨⟨q,c,rfl,_⟩,_,_⟩:=h;rfl
theorem Rd.at {w:World}{v:Value}{bs:List Int}(h:Rd w v bs){i:Nat}(hi:i<bs.length):
  ∃b o c,v=.slice (some ⟨b,o,none⟩) bs.length c∧cellO w.heap[b]? (o+i)=some (.int .u8 bs[i]):=by
 obtain⟨⟨q,c,rfl,_⟩,hm,hr⟩:=h
 simp only[rdS] at hr
 rw[if_neg (by omega)] at hr
 split at hr
 ·rename_i b o
  refine⟨b,o,c,rfl,?_⟩
  rw[rdN_heap] at hr
  cases hb:w.heap[b]? with
  |none=>rw[hb] at hr;cases hr
  |some x=>
   rw[hb] at hr
   cases x with
   |cells d t fr=>
    simp only[rdO] at hr
    split at hr
    ·rename_i hle
     simp only[Option.some.injEq] at hr
     rw[cellO_some]
     have h1:(d.extract o (o+bs.length*1))[i]?=some (.int .u8 bs[i]):=by rw[hr];simp [bv,hi]
     rw[Array.getElem?_extract] at h1
     split at h1
     ·exact h1
     ·cases h1
    ·cases hr
   |_=>cases hr
 ·cases hr
def strOf (bs:List Int):ByteArray:=⟨(bs.map fun m=>UInt8.ofNat m.toNat).toArray⟩
theorem bytesOf_bv (bs:List Int):bytesOf (bv bs)=some (bs.map fun m=>UInt8.ofNat m.toNat):=by
 induction bs with
 |nil=>rfl
 |cons b bs ih=>
  have:bv (b::bs)=.int .u8 b::bv bs:=rfl
  rw[this,bytesOf,ih];rfl
theorem Rd.b2s {w:World}{v:Value}{bs:List Int}(h:Rd w v bs):b2sR w v=some (.string (strOf bs)):=by
 obtain⟨⟨q,c,rfl,hc⟩,hm,hr⟩:=h
 cases q with
 |none=>
  have hb0:bs=[]:=by
   cases bs with
   |nil=>rfl
   |cons b bs=>simp [rdS] at hr
  subst hb0;rfl
 |some a=>
  simp only[b2sR]
  by_cases h0:bs.length=0
  ·have:bs=[]:=List.eq_nil_of_length_eq_zero h0
   subst this;rfl
  ·rw[if_neg h0]
   simp only[rdS,if_neg h0] at hr
   obtain⟨b,o,sp⟩:=a
   cases sp with
   |some x=>cases hr
   |none=>
    simp only[Nat.mul_one] at hr
    simp only[hr,Option.bind_some,bytesOf_bv,Option.map_some]
    rfl
theorem strOf_inj:∀{a b:List Int},byt a→byt b→(strOf a=strOf b↔a=b):=by
 intro a b ha hb
 constructor
 ·intro h
  have h1:a.map (fun m=>UInt8.ofNat m.toNat)=b.map (fun m=>UInt8.ofNat m.toNat):=by
   have:=congrArg (fun x:ByteArray=>x.data.toList) h
   simpa [strOf] using this
  clear h
  induction a generalizing b with
  |nil=>cases b with
   |nil=>rfl
   |cons y b=>simp at h1
  |cons x a ih=>
   cases b with
   |nil=>simp at h1
   |cons y b=>
    simp only[List.map_cons,List.cons.injEq] at h1
    have hx:=ha x (by simp)
    have hy:=hb y (by simp)
    have h2:=congrArg UInt8.toNat h1.1
    simp only[UInt8.toNat_ofNat'] at h2
    have e:x=y:=by omega
    rw[e,ih (fun z hz=>ha z (by simp [hz])) (fun z hz=>hb z (by simp [hz])) h1.2]
 ·rintro rfl;rfl
theorem Rd.cut {w:World}{q:Option Addr}{n c:Nat}{bs:List Int}(h:Rd w (.slice q n c) bs){l j:Nat}(hl:l≤j)(hj:j≤n):Rd w (.slice (advA 1 q c l) (j - l) (c - l)) ((bs.take j).drop l):=by
 obtain⟨⟨q',c',e,hc⟩,hm,hr⟩:=h
 cases e
 have hlen:((bs.take j).drop l).length=j - l:=by rw[List.length_drop,List.length_take];omega
 refine⟨⟨_,_,by rw[hlen],by omega⟩,by omega,?_⟩
 simp only[rdS] at hr⊢
 split
 ·rename_i h0
  have:(bs.take j).drop l=[]:=List.eq_nil_of_length_eq_zero (by omega)
  rw[this];rfl
 ·rename_i h0
  rw[if_neg (by omega)] at hr
  split at hr
  ·rename_i b o
   rw[rdN_heap] at hr
   have hadv:advA 1 (some ⟨b,o,none⟩) c l=some ⟨b,o+l,none⟩:=by
    unfold advA
    rw[if_neg (by omega)]
    simp only[Option.map_some,Addr.add,Nat.mul_one]
    split
    ·rename_i h0;subst h0;rfl
    ·rfl
   rw[hadv]
   simp only[rdN_heap]
   cases hb:w.heap[b]? with
   |none=>rw[hb] at hr;cases hr
   |some x=>
    rw[hb] at hr
    cases x with
    |cells d t fr=>
     simp only[rdO] at hr⊢
     split at hr
     ·rw[if_pos (by omega)]
      simp only[Option.some.injEq] at hr⊢
      apply Array.ext'
      have h3:=congrArg (fun x=>(x.toList.take j).drop l) hr
      simp only[Array.toList_extract,List.extract_eq_take_drop,List.take_take,List.drop_take,List.drop_drop] at h3⊢
      rw[show o+l+(j - l)*1 - (o+l)=j - l by omega]
      rw[show min j (o+bs.length*1 - o) - l=j - l by omega] at h3
      rw[h3];simp [bv,List.map_take,List.map_drop]
     ·cases hr
    |_=>cases hr
  ·cases hr
abbrev Own1 (w:World)(v:Value)(bs:List Int):Prop:=w.ownsRow 0 5 1 v bs.length (bv bs)
theorem Own1.rd {w:World}{v:Value}{bs:List Int}(h:Own1 w v bs):Rd w v bs:=by
 refine⟨?_,row_max h,rdS_own h⟩
 obtain⟨_,⟨rfl,h0⟩|⟨g,cap,cur,rfl,_,_,hn,_⟩⟩:=h
 ·exact⟨none,0,by rw[h0],by omega⟩
 ·exact⟨_,_,rfl,hn⟩
theorem Own1.nil (w:World):Own1 w (.slice none 0 0) []:=⟨rfl,.inl ⟨rfl,rfl⟩⟩
theorem row_type {w:World}{base el size n:Nat}{v:Value}{xs:List Value}(h:w.ownsRow base el size v n xs){g:Nat}(hg:v.ownBlock=some g):∃cur,w.heap[g]?=some (.cells cur el (0,0)):=by
 obtain⟨_,⟨rfl,_⟩|⟨g',cap,cur,rfl,hbg,hh,_⟩⟩:=h
 ·cases hg
 ·cases hg;exact⟨cur,hh⟩
def blk (v:Value)(g:Nat):Prop:=v.ownBlock=some g
theorem Own1.lt {w:World}{v:Value}{bs:List Int}(h:Own1 w v bs){g:Nat}(hg:blk v g):g<w.heap.size:=by
 obtain⟨cur,hc⟩:=row_type h hg
 exact lt_of_heap hc
theorem Own1.keep {S:Nat→Prop}{w w':World}{v:Value}{bs:List Int}(h:Own1 w v bs)(k:Keep S w w')(hS:∀g,blk v g→¬S g):Own1 w' v bs:=ownsRow_keep h k hS
theorem Own1.ext {w w':World}{v:Value}{bs:List Int}(h:Own1 w v bs)(k:Ext w w'):Own1 w' v bs:=ownsRow_keep h k fun _ _ h=>h
theorem own_lit {w:World}{el size n:Nat}{cs:List Value}(hl:cs.length=n*size)(hn:n≤maxLen):(w.alloc (.cells cs.toArray el)).ownsRow 0 el size (.slice (some ⟨w.heap.size,0,none⟩) n n) n cs:=by
 refine⟨hl,.inr ⟨w.heap.size,n,cs.toArray,rfl,Nat.zero_le _,heap_new _ _ _ rfl,Nat.le_refl _,hn,by simp [hl],?_⟩⟩
 rw[←hl];simp
theorem own_lit1 {w:World}{bs:List Int}(hn:bs.length≤maxLen):Own1 (w.alloc (.cells (bv bs).toArray 5)) (.slice (some ⟨w.heap.size,0,none⟩) bs.length bs.length) bs:=
 own_lit (by rw[bv_len,Nat.mul_one]) hn
theorem appB {w:World}{v x:Value}{bs news:List Int}{K:Value→World→Prop}(h:Own1 w v bs)(hx:Rd w x news)(hlen:bs.length+news.length≤1000000000)
  (hk:∀v' w',Own1 w' v' (bs++news)→Keep (blk v) w w'→(∀g,blk v' g→blk v g∨w.heap.size≤g)→K v' w'):appV 5 1 1 [.int .u8 0] v x w K:=by
 obtain⟨⟨q,c,rfl,hc⟩,hm,hr⟩:=hx
 have hml:maxLen=9223372036854775807:=rfl
 refine appV_own3 h rfl hr (bv_flat news) (by omega) (by omega) rfl (Nat.zero_le _) (by omega) fun v' w' ho hg hb=>hk v' w' ?_ ?_ hb
 ·have e:bv (bs++news)=bv bs++(bv news).toArray.toList:=by rw[bv_app]
  show w'.ownsRow 0 5 1 v' (bs++news).length (bv (bs++news))
  rw[e,List.length_append];exact ho
 ·exact(Keep.refl _ w).grown hg fun k _ h=>h
theorem appL {w:World}{v:Value}{bs news:List Int}{K:Value→World→Prop}(h:Own1 w v bs)(hlen:bs.length+news.length≤1000000000)
  (hk:∀v' w',Own1 w' v' (bs++news)→Keep (blk v) w w'→(∀g,blk v' g→blk v g∨w.heap.size≤g)→K v' w'):
  appV 5 1 1 [.int .u8 0] v (.slice (some ⟨w.heap.size,0,none⟩) news.length news.length) (w.alloc (.cells (bv news).toArray 5)) K:=by
 have hE:Ext w (w.alloc (.cells (bv news).toArray 5)):=(Keep.refl _ w).alloc _
 have hml:maxLen=9223372036854775807:=rfl
 refine appB (h.ext hE) (own_lit1 (w:=w) (bs:=news) (by omega)).rd hlen fun v' w' h1 h2 h3=>hk v' w' h1 ((hE.mono fun _ h=>h.elim).trans h2 fun _ _ h=>h) fun g hg=>?_
 rcases h3 g hg with h|h
 ·exact .inl h
 ·exact .inr (by rw[size_alloc] at h;omega)
end Go.Proofs
namespace Go.Proofs
open Go.Vc
set_option maxRecDepth 10000
def U64 (x:BitVec 64):Value:=.int .u64 (x.toNat:Int)
theorem U64_of (n:Nat)(h:n<18446744073709551616):Value.int .u64 (n:Int)=U64 (BitVec.ofNat 64 n):=by
 unfold U64
 rw[BitVec.toNat_ofNat,Nat.mod_eq_of_lt h]
theorem U64_shr (x:BitVec 64)(k:IntKind)(n:Nat)(h:n≤64):binR .shr (U64 x) (.int k (n:Int))=some (U64 (x>>>n)):=by
 unfold U64
 rw[bin_shr,if_pos (by omega)]
 show some (Value.int .u64 ((x.toNat:Int).fdiv (2^Nat.min (n:Int).toNat 64)))=_
 rw[Int.toNat_natCast,show Nat.min n 64=n from Nat.min_eq_left h,Int.fdiv_eq_ediv_of_nonneg _ (Int.le_of_lt (Int.pow_pos (by decide))),BitVec.toNat_ushiftRight,Nat.shiftRight_eq_div_pow]
 congr 2
theorem U64_shl (x:BitVec 64)(k:IntKind)(n:Nat)(h:n≤64):binR .shl (U64 x) (.int k (n:Int))=some (U64 (x<<<n)):=by
 unfold U64
 rw[bin_shl,if_pos (by omega)]
 show some (Value.int .u64 (IntKind.u64.wrap ((x.toNat:Int)*(2^Nat.min (n:Int).toNat 64))))=_
 rw[Int.toNat_natCast,show Nat.min n 64=n from Nat.min_eq_left h,BitVec.toNat_shiftLeft,Nat.shiftLeft_eq,wrap_u64]
 congr 2
def U32 (x:BitVec 32):Value:=.int .u32 (x.toNat:Int)
theorem w32_ofInt (x:BitVec 32):BitVec.ofInt 32 (x.toNat:Int)=x:=by
 rw[BitVec.ofInt_natCast,BitVec.ofNat_toNat,BitVec.setWidth_eq]
theorem w32_wrap (x:BitVec 32):IntKind.u32.wrap (x.toNat:Int)=(x.toNat:Int):=by
 have:=x.isLt
 rw[wrap_u32];omega
theorem U32_xor (x y:BitVec 32):binR .xor (U32 x) (U32 y)=some (U32 (x^^^y)):=by
 unfold U32
 rw[bin_xor]
 show some (Value.int .u32 (IntKind.u32.wrap ((BitVec.ofInt 32 (x.toNat:Int)^^^BitVec.ofInt 32 (y.toNat:Int)).toNat:Int)))=_
 rw[w32_ofInt,w32_ofInt,w32_wrap]
theorem U32_and (x y:BitVec 32):binR .and (U32 x) (U32 y)=some (U32 (x&&& y)):=by
 unfold U32
 rw[bin_and]
 show some (Value.int .u32 (IntKind.u32.wrap ((BitVec.ofInt 32 (x.toNat:Int)&&& BitVec.ofInt 32 (y.toNat:Int)).toNat:Int)))=_
 rw[w32_ofInt,w32_ofInt,w32_wrap]
theorem U32_or (x y:BitVec 32):binR .or (U32 x) (U32 y)=some (U32 (x|||y)):=by
 unfold U32
 rw[bin_or]
 show some (Value.int .u32 (IntKind.u32.wrap ((BitVec.ofInt 32 (x.toNat:Int)|||BitVec.ofInt 32 (y.toNat:Int)).toNat:Int)))=_
 rw[w32_ofInt,w32_ofInt,w32_wrap]
theorem U32_not (x:BitVec 32):bnotR (U32 x)=some (U32 (~~~x)):=by
 unfold U32
 rw[bnot_i]
 show some (Value.int .u32 (IntKind.u32.wrap ((BitVec.ofInt 32 (IntKind.u32.max)^^^BitVec.ofInt 32 (x.toNat:Int)).toNat:Int)))=_
 have e:BitVec.ofInt 32 (IntKind.u32.max)=BitVec.allOnes 32:=by decide+kernel
 rw[e,w32_ofInt,BitVec.allOnes_xor,w32_wrap]
theorem U32_add (x y:BitVec 32):binR .add (U32 x) (U32 y)=some (U32 (x+y)):=by
 unfold U32
 rw[bin_add,wrap_u32,BitVec.toNat_add]
 congr 2
theorem U32_mul (x y:BitVec 32):binR .mul (U32 x) (U32 y)=some (U32 (x*y)):=by
 unfold U32
 rw[bin_mul,wrap_u32,BitVec.toNat_mul]
 congr 2
theorem U32_shr (x:BitVec 32)(k:IntKind)(n:Nat)(h:n≤32):binR .shr (U32 x) (.int k (n:Int))=some (U32 (x>>>n)):=by
 unfold U32
 rw[bin_shr,if_pos (by omega)]
 show some (Value.int .u32 ((x.toNat:Int).fdiv (2^Nat.min (n:Int).toNat 32)))=_
 rw[Int.toNat_natCast,show Nat.min n 32=n from Nat.min_eq_left h,Int.fdiv_eq_ediv_of_nonneg _ (Int.le_of_lt (Int.pow_pos (by decide))),BitVec.toNat_ushiftRight,Nat.shiftRight_eq_div_pow]
 congr 2
theorem U32_shl (x:BitVec 32)(k:IntKind)(n:Nat)(h:n≤32):binR .shl (U32 x) (.int k (n:Int))=some (U32 (x<<<n)):=by
 unfold U32
 rw[bin_shl,if_pos (by omega)]
 show some (Value.int .u32 (IntKind.u32.wrap ((x.toNat:Int)*(2^Nat.min (n:Int).toNat 32))))=_
 rw[Int.toNat_natCast,show Nat.min n 32=n from Nat.min_eq_left h,BitVec.toNat_shiftLeft,Nat.shiftLeft_eq,wrap_u32]
 congr 2
theorem U32_cells (x:BitVec 32):(U32 x).cells=#[U32 x]:=rfl
end Go.Proofs
