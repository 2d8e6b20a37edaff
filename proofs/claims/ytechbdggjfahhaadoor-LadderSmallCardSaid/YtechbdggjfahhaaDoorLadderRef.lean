/-
  The document's Times: its contract.
-/
import Derived.Test.YtechbdggjfahhaaDoorLadderTimes2
import Derived.Test.YtechbdggjfahhaaDoorCurveRefDC
import Derived.Test.YtechbdggjfahhaaDoorCurveRefG
namespace Go.Proofs.YtechbdggjfahhaaDoor.Sx
open Go
set_option maxRecDepth 100000

noncomputable abbrev vF : List (FuncId × (List A → List Blk → Option Res)) :=
  [(13, fTrim), (17, fCanon), (27, fAdd), (28, fSub), (29, fMul), (30, fInvert)]
theorem vF_ok : ∀ p ∈ vF, FnOk Tryd.prog gl p.1 p.2 := by
  intro p hp
  simp only [vF, List.mem_cons, List.not_mem_nil, or_false] at hp
  rcases hp with rfl | rfl | rfl | rfl | rfl | rfl
  · exact rtrim_ok
  · exact rcanon_ok
  · exact radd_ok
  · exact rsub_ok
  · exact rmul_ok
  · exact rinvert_ok

def hintY (go b : Bool) (t : Tmp) : Option Bool :=
  match t with
  | 39 => some go
  | 51 => some b
  | 108 => some b
  | _ => none

noncomputable abbrev yC (go b : Bool) : Ctx := mkh (hintY go b) vF
theorem yC_ok (go b : Bool) : (yC go b).Ok := mkh_ok vF_ok

noncomputable def bodyY : Code := (Tryd.f15.body).getD .skip
noncomputable def loopY : Code := loopC (blkC (seqR (seqL (post 9 bodyY))))
noncomputable def endY : Code := seqR (post 9 bodyY)
noncomputable def workY : Code := blkC (seqL (post 1 loopY))
theorem bodyY_eq : Tryd.f15.body = some bodyY := by kernel_rfl
theorem postY_eq : post 9 bodyY = .seq (.seq (seqL (seqL (post 9 bodyY))) (.block 0 (.loop loopY))) endY := by kernel_rfl
theorem loopY_eq : post 1 loopY = .seq (.block 1 workY) (seqR (post 1 loopY)) := by kernel_rfl

def tm12 : List A := [.any, .any, .any, .any, .ptr (gn + 2) 0, .ptr (gn + 3) 0, .ptr (gn + 4) 0, .ptr (gn + 5) 0, .ptr (gn + 6) 0, .ptr (gn + 7) 0, .ptr (gn + 8) 0, .ptr (gn + 9) 0]
def tmY0 : List A := tm12 ++ List.replicate 105 .any
def tmY (t : Int) : List A := tm12 ++ (.int .i64 t :: List.replicate 104 .any)
def tmYb (t bit : Int) : List A := tm12 ++ (.int .i64 t :: .int .u8 bit :: List.replicate 103 .any)
def hpY (K X : List Int) (s : LL) : Hp := glz ++ [(gn + 2, kb (List.replicate 32 0)), (gn + 3, kb K), (gn + 4, kb X), (gn + 5, kb s.x2), (gn + 6, kb s.z2), (gn + 7, kb s.x3), (gn + 8, kb s.z3), (gn + 9, kb smallL)]
def bkY : List Nat := gks ++ [gn + 2, gn + 3, gn + 4, gn + 5, gn + 6, gn + 7, gn + 8, gn + 9]
def swLL (b : Bool) (s : LL) : LL :=
  match b with
  | true => ⟨s.x3, s.z3, s.x2, s.z2⟩
  | false => s

theorem preY_run (k u : List Int) : execF (yC true true) 200 (pre 9 bodyY) gn [4, 5, 6, 7, 8, 9, 10, 11] bkY (s0 (yC true true) 117 [.agg .u8 (tab 32 k), .agg .u8 (tab 32 u)] []) =
    some (.normal, ⟨tmY0, hpY (trimB (tab 32 k)) (cC (maskU (tab 32 u))) ⟨oneL, zeroL, cC (maskU (tab 32 u)), oneL⟩, []⟩) := by kernel_rfl
theorem iniY_run (K X : List Int) (s : LL) : execF (yC true true) 200 (seqL (seqL (post 9 bodyY))) gn [4, 5, 6, 7, 8, 9, 10, 11, 12] bkY ⟨tmY0, hpY K X s, []⟩ = some (.normal, ⟨tmY 254, hpY K X s, []⟩) := by kernel_rfl
theorem goY_run (K X : List Int) (s : LL) (t : Int) : execF (yC true true) 200 (pre 1 loopY) gn [4, 5, 6, 7, 8, 9, 10, 11, 12] bkY ⟨tmY t, hpY K X s, []⟩ = some (.normal, ⟨tmY t, hpY K X s, [decide (t ≥ 0) = true]⟩) := by kernel_rfl
theorem stopY_run (K X : List Int) (s : LL) (t : Int) : execF (yC false true) 200 loopY gn [4, 5, 6, 7, 8, 9, 10, 11] bkY ⟨tmY t, hpY K X s, []⟩ = some (.exit 0, ⟨tmY0, hpY K X s, [decide (t ≥ 0) = false]⟩) := by kernel_rfl

/-- The bit of a round. -/
def rdY (n : Nat) : Prop := ∀ (K X : List Int) (s : LL), execF (yC true true) 200 (pre 1 workY) gn [4, 5, 6, 7, 8, 9, 10, 11, 12, 13] bkY ⟨tmY (n : Int), hpY (tab 32 K) X s, []⟩ =
  some (.normal, ⟨tmYb (n : Int) (bitR K n), hpY (tab 32 K) X s, []⟩)

def rdYs : Nat → Prop
  | 0 => True
  | n + 1 => rdYs n ∧ rdY n

theorem rdY_0 : rdY 0 := fun _ _ _ => by kernel_rfl
theorem rdY_1 : rdY 1 := fun _ _ _ => by kernel_rfl
theorem rdY_2 : rdY 2 := fun _ _ _ => by kernel_rfl
theorem rdY_3 : rdY 3 := fun _ _ _ => by kernel_rfl
theorem rdY_4 : rdY 4 := fun _ _ _ => by kernel_rfl
theorem rdY_5 : rdY 5 := fun _ _ _ => by kernel_rfl
theorem rdY_6 : rdY 6 := fun _ _ _ => by kernel_rfl
theorem rdY_7 : rdY 7 := fun _ _ _ => by kernel_rfl
theorem rdY_8 : rdY 8 := fun _ _ _ => by kernel_rfl
theorem rdY_9 : rdY 9 := fun _ _ _ => by kernel_rfl
theorem rdY_10 : rdY 10 := fun _ _ _ => by kernel_rfl
theorem rdY_11 : rdY 11 := fun _ _ _ => by kernel_rfl
theorem rdY_12 : rdY 12 := fun _ _ _ => by kernel_rfl
theorem rdY_13 : rdY 13 := fun _ _ _ => by kernel_rfl
theorem rdY_14 : rdY 14 := fun _ _ _ => by kernel_rfl
theorem rdY_15 : rdY 15 := fun _ _ _ => by kernel_rfl
theorem rdY_16 : rdY 16 := fun _ _ _ => by kernel_rfl
theorem rdY_17 : rdY 17 := fun _ _ _ => by kernel_rfl
theorem rdY_18 : rdY 18 := fun _ _ _ => by kernel_rfl
theorem rdY_19 : rdY 19 := fun _ _ _ => by kernel_rfl
theorem rdY_20 : rdY 20 := fun _ _ _ => by kernel_rfl
theorem rdY_21 : rdY 21 := fun _ _ _ => by kernel_rfl
theorem rdY_22 : rdY 22 := fun _ _ _ => by kernel_rfl
theorem rdY_23 : rdY 23 := fun _ _ _ => by kernel_rfl
theorem rdY_24 : rdY 24 := fun _ _ _ => by kernel_rfl
theorem rdY_25 : rdY 25 := fun _ _ _ => by kernel_rfl
theorem rdY_26 : rdY 26 := fun _ _ _ => by kernel_rfl
theorem rdY_27 : rdY 27 := fun _ _ _ => by kernel_rfl
theorem rdY_28 : rdY 28 := fun _ _ _ => by kernel_rfl
theorem rdY_29 : rdY 29 := fun _ _ _ => by kernel_rfl
theorem rdY_30 : rdY 30 := fun _ _ _ => by kernel_rfl
theorem rdY_31 : rdY 31 := fun _ _ _ => by kernel_rfl
theorem rdY_32 : rdY 32 := fun _ _ _ => by kernel_rfl
theorem rdY_33 : rdY 33 := fun _ _ _ => by kernel_rfl
theorem rdY_34 : rdY 34 := fun _ _ _ => by kernel_rfl
theorem rdY_35 : rdY 35 := fun _ _ _ => by kernel_rfl
theorem rdY_36 : rdY 36 := fun _ _ _ => by kernel_rfl
theorem rdY_37 : rdY 37 := fun _ _ _ => by kernel_rfl
theorem rdY_38 : rdY 38 := fun _ _ _ => by kernel_rfl
theorem rdY_39 : rdY 39 := fun _ _ _ => by kernel_rfl
theorem rdY_40 : rdY 40 := fun _ _ _ => by kernel_rfl
theorem rdY_41 : rdY 41 := fun _ _ _ => by kernel_rfl
theorem rdY_42 : rdY 42 := fun _ _ _ => by kernel_rfl
theorem rdY_43 : rdY 43 := fun _ _ _ => by kernel_rfl
theorem rdY_44 : rdY 44 := fun _ _ _ => by kernel_rfl
theorem rdY_45 : rdY 45 := fun _ _ _ => by kernel_rfl
theorem rdY_46 : rdY 46 := fun _ _ _ => by kernel_rfl
theorem rdY_47 : rdY 47 := fun _ _ _ => by kernel_rfl
theorem rdY_48 : rdY 48 := fun _ _ _ => by kernel_rfl
theorem rdY_49 : rdY 49 := fun _ _ _ => by kernel_rfl
theorem rdY_50 : rdY 50 := fun _ _ _ => by kernel_rfl
theorem rdY_51 : rdY 51 := fun _ _ _ => by kernel_rfl
theorem rdY_52 : rdY 52 := fun _ _ _ => by kernel_rfl
theorem rdY_53 : rdY 53 := fun _ _ _ => by kernel_rfl
theorem rdY_54 : rdY 54 := fun _ _ _ => by kernel_rfl
theorem rdY_55 : rdY 55 := fun _ _ _ => by kernel_rfl
theorem rdY_56 : rdY 56 := fun _ _ _ => by kernel_rfl
theorem rdY_57 : rdY 57 := fun _ _ _ => by kernel_rfl
theorem rdY_58 : rdY 58 := fun _ _ _ => by kernel_rfl
theorem rdY_59 : rdY 59 := fun _ _ _ => by kernel_rfl
theorem rdY_60 : rdY 60 := fun _ _ _ => by kernel_rfl
theorem rdY_61 : rdY 61 := fun _ _ _ => by kernel_rfl
theorem rdY_62 : rdY 62 := fun _ _ _ => by kernel_rfl
theorem rdY_63 : rdY 63 := fun _ _ _ => by kernel_rfl
theorem rdY_64 : rdY 64 := fun _ _ _ => by kernel_rfl
theorem rdY_65 : rdY 65 := fun _ _ _ => by kernel_rfl
theorem rdY_66 : rdY 66 := fun _ _ _ => by kernel_rfl
theorem rdY_67 : rdY 67 := fun _ _ _ => by kernel_rfl
theorem rdY_68 : rdY 68 := fun _ _ _ => by kernel_rfl
theorem rdY_69 : rdY 69 := fun _ _ _ => by kernel_rfl
theorem rdY_70 : rdY 70 := fun _ _ _ => by kernel_rfl
theorem rdY_71 : rdY 71 := fun _ _ _ => by kernel_rfl
theorem rdY_72 : rdY 72 := fun _ _ _ => by kernel_rfl
theorem rdY_73 : rdY 73 := fun _ _ _ => by kernel_rfl
theorem rdY_74 : rdY 74 := fun _ _ _ => by kernel_rfl
theorem rdY_75 : rdY 75 := fun _ _ _ => by kernel_rfl
theorem rdY_76 : rdY 76 := fun _ _ _ => by kernel_rfl
theorem rdY_77 : rdY 77 := fun _ _ _ => by kernel_rfl
theorem rdY_78 : rdY 78 := fun _ _ _ => by kernel_rfl
theorem rdY_79 : rdY 79 := fun _ _ _ => by kernel_rfl
theorem rdY_80 : rdY 80 := fun _ _ _ => by kernel_rfl
theorem rdY_81 : rdY 81 := fun _ _ _ => by kernel_rfl
theorem rdY_82 : rdY 82 := fun _ _ _ => by kernel_rfl
theorem rdY_83 : rdY 83 := fun _ _ _ => by kernel_rfl
theorem rdY_84 : rdY 84 := fun _ _ _ => by kernel_rfl
theorem rdY_85 : rdY 85 := fun _ _ _ => by kernel_rfl
theorem rdY_86 : rdY 86 := fun _ _ _ => by kernel_rfl
theorem rdY_87 : rdY 87 := fun _ _ _ => by kernel_rfl
theorem rdY_88 : rdY 88 := fun _ _ _ => by kernel_rfl
theorem rdY_89 : rdY 89 := fun _ _ _ => by kernel_rfl
theorem rdY_90 : rdY 90 := fun _ _ _ => by kernel_rfl
theorem rdY_91 : rdY 91 := fun _ _ _ => by kernel_rfl
theorem rdY_92 : rdY 92 := fun _ _ _ => by kernel_rfl
theorem rdY_93 : rdY 93 := fun _ _ _ => by kernel_rfl
theorem rdY_94 : rdY 94 := fun _ _ _ => by kernel_rfl
theorem rdY_95 : rdY 95 := fun _ _ _ => by kernel_rfl
theorem rdY_96 : rdY 96 := fun _ _ _ => by kernel_rfl
theorem rdY_97 : rdY 97 := fun _ _ _ => by kernel_rfl
theorem rdY_98 : rdY 98 := fun _ _ _ => by kernel_rfl
theorem rdY_99 : rdY 99 := fun _ _ _ => by kernel_rfl
theorem rdY_100 : rdY 100 := fun _ _ _ => by kernel_rfl
theorem rdY_101 : rdY 101 := fun _ _ _ => by kernel_rfl
theorem rdY_102 : rdY 102 := fun _ _ _ => by kernel_rfl
theorem rdY_103 : rdY 103 := fun _ _ _ => by kernel_rfl
theorem rdY_104 : rdY 104 := fun _ _ _ => by kernel_rfl
theorem rdY_105 : rdY 105 := fun _ _ _ => by kernel_rfl
theorem rdY_106 : rdY 106 := fun _ _ _ => by kernel_rfl
theorem rdY_107 : rdY 107 := fun _ _ _ => by kernel_rfl
theorem rdY_108 : rdY 108 := fun _ _ _ => by kernel_rfl
theorem rdY_109 : rdY 109 := fun _ _ _ => by kernel_rfl
theorem rdY_110 : rdY 110 := fun _ _ _ => by kernel_rfl
theorem rdY_111 : rdY 111 := fun _ _ _ => by kernel_rfl
theorem rdY_112 : rdY 112 := fun _ _ _ => by kernel_rfl
theorem rdY_113 : rdY 113 := fun _ _ _ => by kernel_rfl
theorem rdY_114 : rdY 114 := fun _ _ _ => by kernel_rfl
theorem rdY_115 : rdY 115 := fun _ _ _ => by kernel_rfl
theorem rdY_116 : rdY 116 := fun _ _ _ => by kernel_rfl
theorem rdY_117 : rdY 117 := fun _ _ _ => by kernel_rfl
theorem rdY_118 : rdY 118 := fun _ _ _ => by kernel_rfl
theorem rdY_119 : rdY 119 := fun _ _ _ => by kernel_rfl
theorem rdY_120 : rdY 120 := fun _ _ _ => by kernel_rfl
theorem rdY_121 : rdY 121 := fun _ _ _ => by kernel_rfl
theorem rdY_122 : rdY 122 := fun _ _ _ => by kernel_rfl
theorem rdY_123 : rdY 123 := fun _ _ _ => by kernel_rfl
theorem rdY_124 : rdY 124 := fun _ _ _ => by kernel_rfl
theorem rdY_125 : rdY 125 := fun _ _ _ => by kernel_rfl
theorem rdY_126 : rdY 126 := fun _ _ _ => by kernel_rfl
theorem rdY_127 : rdY 127 := fun _ _ _ => by kernel_rfl
theorem rdY_128 : rdY 128 := fun _ _ _ => by kernel_rfl
theorem rdY_129 : rdY 129 := fun _ _ _ => by kernel_rfl
theorem rdY_130 : rdY 130 := fun _ _ _ => by kernel_rfl
theorem rdY_131 : rdY 131 := fun _ _ _ => by kernel_rfl
theorem rdY_132 : rdY 132 := fun _ _ _ => by kernel_rfl
theorem rdY_133 : rdY 133 := fun _ _ _ => by kernel_rfl
theorem rdY_134 : rdY 134 := fun _ _ _ => by kernel_rfl
theorem rdY_135 : rdY 135 := fun _ _ _ => by kernel_rfl
theorem rdY_136 : rdY 136 := fun _ _ _ => by kernel_rfl
theorem rdY_137 : rdY 137 := fun _ _ _ => by kernel_rfl
theorem rdY_138 : rdY 138 := fun _ _ _ => by kernel_rfl
theorem rdY_139 : rdY 139 := fun _ _ _ => by kernel_rfl
theorem rdY_140 : rdY 140 := fun _ _ _ => by kernel_rfl
theorem rdY_141 : rdY 141 := fun _ _ _ => by kernel_rfl
theorem rdY_142 : rdY 142 := fun _ _ _ => by kernel_rfl
theorem rdY_143 : rdY 143 := fun _ _ _ => by kernel_rfl
theorem rdY_144 : rdY 144 := fun _ _ _ => by kernel_rfl
theorem rdY_145 : rdY 145 := fun _ _ _ => by kernel_rfl
theorem rdY_146 : rdY 146 := fun _ _ _ => by kernel_rfl
theorem rdY_147 : rdY 147 := fun _ _ _ => by kernel_rfl
theorem rdY_148 : rdY 148 := fun _ _ _ => by kernel_rfl
theorem rdY_149 : rdY 149 := fun _ _ _ => by kernel_rfl
theorem rdY_150 : rdY 150 := fun _ _ _ => by kernel_rfl
theorem rdY_151 : rdY 151 := fun _ _ _ => by kernel_rfl
theorem rdY_152 : rdY 152 := fun _ _ _ => by kernel_rfl
theorem rdY_153 : rdY 153 := fun _ _ _ => by kernel_rfl
theorem rdY_154 : rdY 154 := fun _ _ _ => by kernel_rfl
theorem rdY_155 : rdY 155 := fun _ _ _ => by kernel_rfl
theorem rdY_156 : rdY 156 := fun _ _ _ => by kernel_rfl
theorem rdY_157 : rdY 157 := fun _ _ _ => by kernel_rfl
theorem rdY_158 : rdY 158 := fun _ _ _ => by kernel_rfl
theorem rdY_159 : rdY 159 := fun _ _ _ => by kernel_rfl
theorem rdY_160 : rdY 160 := fun _ _ _ => by kernel_rfl
theorem rdY_161 : rdY 161 := fun _ _ _ => by kernel_rfl
theorem rdY_162 : rdY 162 := fun _ _ _ => by kernel_rfl
theorem rdY_163 : rdY 163 := fun _ _ _ => by kernel_rfl
theorem rdY_164 : rdY 164 := fun _ _ _ => by kernel_rfl
theorem rdY_165 : rdY 165 := fun _ _ _ => by kernel_rfl
theorem rdY_166 : rdY 166 := fun _ _ _ => by kernel_rfl
theorem rdY_167 : rdY 167 := fun _ _ _ => by kernel_rfl
theorem rdY_168 : rdY 168 := fun _ _ _ => by kernel_rfl
theorem rdY_169 : rdY 169 := fun _ _ _ => by kernel_rfl
theorem rdY_170 : rdY 170 := fun _ _ _ => by kernel_rfl
theorem rdY_171 : rdY 171 := fun _ _ _ => by kernel_rfl
theorem rdY_172 : rdY 172 := fun _ _ _ => by kernel_rfl
theorem rdY_173 : rdY 173 := fun _ _ _ => by kernel_rfl
theorem rdY_174 : rdY 174 := fun _ _ _ => by kernel_rfl
theorem rdY_175 : rdY 175 := fun _ _ _ => by kernel_rfl
theorem rdY_176 : rdY 176 := fun _ _ _ => by kernel_rfl
theorem rdY_177 : rdY 177 := fun _ _ _ => by kernel_rfl
theorem rdY_178 : rdY 178 := fun _ _ _ => by kernel_rfl
theorem rdY_179 : rdY 179 := fun _ _ _ => by kernel_rfl
theorem rdY_180 : rdY 180 := fun _ _ _ => by kernel_rfl
theorem rdY_181 : rdY 181 := fun _ _ _ => by kernel_rfl
theorem rdY_182 : rdY 182 := fun _ _ _ => by kernel_rfl
theorem rdY_183 : rdY 183 := fun _ _ _ => by kernel_rfl
theorem rdY_184 : rdY 184 := fun _ _ _ => by kernel_rfl
theorem rdY_185 : rdY 185 := fun _ _ _ => by kernel_rfl
theorem rdY_186 : rdY 186 := fun _ _ _ => by kernel_rfl
theorem rdY_187 : rdY 187 := fun _ _ _ => by kernel_rfl
theorem rdY_188 : rdY 188 := fun _ _ _ => by kernel_rfl
theorem rdY_189 : rdY 189 := fun _ _ _ => by kernel_rfl
theorem rdY_190 : rdY 190 := fun _ _ _ => by kernel_rfl
theorem rdY_191 : rdY 191 := fun _ _ _ => by kernel_rfl
theorem rdY_192 : rdY 192 := fun _ _ _ => by kernel_rfl
theorem rdY_193 : rdY 193 := fun _ _ _ => by kernel_rfl
theorem rdY_194 : rdY 194 := fun _ _ _ => by kernel_rfl
theorem rdY_195 : rdY 195 := fun _ _ _ => by kernel_rfl
theorem rdY_196 : rdY 196 := fun _ _ _ => by kernel_rfl
theorem rdY_197 : rdY 197 := fun _ _ _ => by kernel_rfl
theorem rdY_198 : rdY 198 := fun _ _ _ => by kernel_rfl
theorem rdY_199 : rdY 199 := fun _ _ _ => by kernel_rfl
theorem rdY_200 : rdY 200 := fun _ _ _ => by kernel_rfl
theorem rdY_201 : rdY 201 := fun _ _ _ => by kernel_rfl
theorem rdY_202 : rdY 202 := fun _ _ _ => by kernel_rfl
theorem rdY_203 : rdY 203 := fun _ _ _ => by kernel_rfl
theorem rdY_204 : rdY 204 := fun _ _ _ => by kernel_rfl
theorem rdY_205 : rdY 205 := fun _ _ _ => by kernel_rfl
theorem rdY_206 : rdY 206 := fun _ _ _ => by kernel_rfl
theorem rdY_207 : rdY 207 := fun _ _ _ => by kernel_rfl
theorem rdY_208 : rdY 208 := fun _ _ _ => by kernel_rfl
theorem rdY_209 : rdY 209 := fun _ _ _ => by kernel_rfl
theorem rdY_210 : rdY 210 := fun _ _ _ => by kernel_rfl
theorem rdY_211 : rdY 211 := fun _ _ _ => by kernel_rfl
theorem rdY_212 : rdY 212 := fun _ _ _ => by kernel_rfl
theorem rdY_213 : rdY 213 := fun _ _ _ => by kernel_rfl
theorem rdY_214 : rdY 214 := fun _ _ _ => by kernel_rfl
theorem rdY_215 : rdY 215 := fun _ _ _ => by kernel_rfl
theorem rdY_216 : rdY 216 := fun _ _ _ => by kernel_rfl
theorem rdY_217 : rdY 217 := fun _ _ _ => by kernel_rfl
theorem rdY_218 : rdY 218 := fun _ _ _ => by kernel_rfl
theorem rdY_219 : rdY 219 := fun _ _ _ => by kernel_rfl
theorem rdY_220 : rdY 220 := fun _ _ _ => by kernel_rfl
theorem rdY_221 : rdY 221 := fun _ _ _ => by kernel_rfl
theorem rdY_222 : rdY 222 := fun _ _ _ => by kernel_rfl
theorem rdY_223 : rdY 223 := fun _ _ _ => by kernel_rfl
theorem rdY_224 : rdY 224 := fun _ _ _ => by kernel_rfl
theorem rdY_225 : rdY 225 := fun _ _ _ => by kernel_rfl
theorem rdY_226 : rdY 226 := fun _ _ _ => by kernel_rfl
theorem rdY_227 : rdY 227 := fun _ _ _ => by kernel_rfl
theorem rdY_228 : rdY 228 := fun _ _ _ => by kernel_rfl
theorem rdY_229 : rdY 229 := fun _ _ _ => by kernel_rfl
theorem rdY_230 : rdY 230 := fun _ _ _ => by kernel_rfl
theorem rdY_231 : rdY 231 := fun _ _ _ => by kernel_rfl
theorem rdY_232 : rdY 232 := fun _ _ _ => by kernel_rfl
theorem rdY_233 : rdY 233 := fun _ _ _ => by kernel_rfl
theorem rdY_234 : rdY 234 := fun _ _ _ => by kernel_rfl
theorem rdY_235 : rdY 235 := fun _ _ _ => by kernel_rfl
theorem rdY_236 : rdY 236 := fun _ _ _ => by kernel_rfl
theorem rdY_237 : rdY 237 := fun _ _ _ => by kernel_rfl
theorem rdY_238 : rdY 238 := fun _ _ _ => by kernel_rfl
theorem rdY_239 : rdY 239 := fun _ _ _ => by kernel_rfl
theorem rdY_240 : rdY 240 := fun _ _ _ => by kernel_rfl
theorem rdY_241 : rdY 241 := fun _ _ _ => by kernel_rfl
theorem rdY_242 : rdY 242 := fun _ _ _ => by kernel_rfl
theorem rdY_243 : rdY 243 := fun _ _ _ => by kernel_rfl
theorem rdY_244 : rdY 244 := fun _ _ _ => by kernel_rfl
theorem rdY_245 : rdY 245 := fun _ _ _ => by kernel_rfl
theorem rdY_246 : rdY 246 := fun _ _ _ => by kernel_rfl
theorem rdY_247 : rdY 247 := fun _ _ _ => by kernel_rfl
theorem rdY_248 : rdY 248 := fun _ _ _ => by kernel_rfl
theorem rdY_249 : rdY 249 := fun _ _ _ => by kernel_rfl
theorem rdY_250 : rdY 250 := fun _ _ _ => by kernel_rfl
theorem rdY_251 : rdY 251 := fun _ _ _ => by kernel_rfl
theorem rdY_252 : rdY 252 := fun _ _ _ => by kernel_rfl
theorem rdY_253 : rdY 253 := fun _ _ _ => by kernel_rfl
theorem rdY_254 : rdY 254 := fun _ _ _ => by kernel_rfl
theorem rdY_all : rdYs 255 := ⟨⟨⟨⟨⟨⟨⟨⟨⟨⟨⟨⟨⟨⟨⟨⟨⟨⟨⟨⟨⟨⟨⟨⟨⟨⟨⟨⟨⟨⟨⟨⟨⟨⟨⟨⟨⟨⟨⟨⟨⟨⟨⟨⟨⟨⟨⟨⟨⟨⟨⟨⟨⟨⟨⟨⟨⟨⟨⟨⟨⟨⟨⟨⟨⟨⟨⟨⟨⟨⟨⟨⟨⟨⟨⟨⟨⟨⟨⟨⟨⟨⟨⟨⟨⟨⟨⟨⟨⟨⟨⟨⟨⟨⟨⟨⟨⟨⟨⟨⟨⟨⟨⟨⟨⟨⟨⟨⟨⟨⟨⟨⟨⟨⟨⟨⟨⟨⟨⟨⟨⟨⟨⟨⟨⟨⟨⟨⟨⟨⟨⟨⟨⟨⟨⟨⟨⟨⟨⟨⟨⟨⟨⟨⟨⟨⟨⟨⟨⟨⟨⟨⟨⟨⟨⟨⟨⟨⟨⟨⟨⟨⟨⟨⟨⟨⟨⟨⟨⟨⟨⟨⟨⟨⟨⟨⟨⟨⟨⟨⟨⟨⟨⟨⟨⟨⟨⟨⟨⟨⟨⟨⟨⟨⟨⟨⟨⟨⟨⟨⟨⟨⟨⟨⟨⟨⟨⟨⟨⟨⟨⟨⟨⟨⟨⟨⟨⟨⟨⟨⟨⟨⟨⟨⟨⟨⟨⟨⟨⟨⟨⟨⟨⟨⟨⟨⟨⟨⟨⟨⟨⟨⟨⟨⟨⟨⟨⟨⟨⟨⟨⟨⟨⟨⟨⟨trivial, rdY_0⟩, rdY_1⟩, rdY_2⟩, rdY_3⟩, rdY_4⟩, rdY_5⟩, rdY_6⟩, rdY_7⟩, rdY_8⟩, rdY_9⟩, rdY_10⟩, rdY_11⟩, rdY_12⟩, rdY_13⟩, rdY_14⟩, rdY_15⟩, rdY_16⟩, rdY_17⟩, rdY_18⟩, rdY_19⟩, rdY_20⟩, rdY_21⟩, rdY_22⟩, rdY_23⟩, rdY_24⟩, rdY_25⟩, rdY_26⟩, rdY_27⟩, rdY_28⟩, rdY_29⟩, rdY_30⟩, rdY_31⟩, rdY_32⟩, rdY_33⟩, rdY_34⟩, rdY_35⟩, rdY_36⟩, rdY_37⟩, rdY_38⟩, rdY_39⟩, rdY_40⟩, rdY_41⟩, rdY_42⟩, rdY_43⟩, rdY_44⟩, rdY_45⟩, rdY_46⟩, rdY_47⟩, rdY_48⟩, rdY_49⟩, rdY_50⟩, rdY_51⟩, rdY_52⟩, rdY_53⟩, rdY_54⟩, rdY_55⟩, rdY_56⟩, rdY_57⟩, rdY_58⟩, rdY_59⟩, rdY_60⟩, rdY_61⟩, rdY_62⟩, rdY_63⟩, rdY_64⟩, rdY_65⟩, rdY_66⟩, rdY_67⟩, rdY_68⟩, rdY_69⟩, rdY_70⟩, rdY_71⟩, rdY_72⟩, rdY_73⟩, rdY_74⟩, rdY_75⟩, rdY_76⟩, rdY_77⟩, rdY_78⟩, rdY_79⟩, rdY_80⟩, rdY_81⟩, rdY_82⟩, rdY_83⟩, rdY_84⟩, rdY_85⟩, rdY_86⟩, rdY_87⟩, rdY_88⟩, rdY_89⟩, rdY_90⟩, rdY_91⟩, rdY_92⟩, rdY_93⟩, rdY_94⟩, rdY_95⟩, rdY_96⟩, rdY_97⟩, rdY_98⟩, rdY_99⟩, rdY_100⟩, rdY_101⟩, rdY_102⟩, rdY_103⟩, rdY_104⟩, rdY_105⟩, rdY_106⟩, rdY_107⟩, rdY_108⟩, rdY_109⟩, rdY_110⟩, rdY_111⟩, rdY_112⟩, rdY_113⟩, rdY_114⟩, rdY_115⟩, rdY_116⟩, rdY_117⟩, rdY_118⟩, rdY_119⟩, rdY_120⟩, rdY_121⟩, rdY_122⟩, rdY_123⟩, rdY_124⟩, rdY_125⟩, rdY_126⟩, rdY_127⟩, rdY_128⟩, rdY_129⟩, rdY_130⟩, rdY_131⟩, rdY_132⟩, rdY_133⟩, rdY_134⟩, rdY_135⟩, rdY_136⟩, rdY_137⟩, rdY_138⟩, rdY_139⟩, rdY_140⟩, rdY_141⟩, rdY_142⟩, rdY_143⟩, rdY_144⟩, rdY_145⟩, rdY_146⟩, rdY_147⟩, rdY_148⟩, rdY_149⟩, rdY_150⟩, rdY_151⟩, rdY_152⟩, rdY_153⟩, rdY_154⟩, rdY_155⟩, rdY_156⟩, rdY_157⟩, rdY_158⟩, rdY_159⟩, rdY_160⟩, rdY_161⟩, rdY_162⟩, rdY_163⟩, rdY_164⟩, rdY_165⟩, rdY_166⟩, rdY_167⟩, rdY_168⟩, rdY_169⟩, rdY_170⟩, rdY_171⟩, rdY_172⟩, rdY_173⟩, rdY_174⟩, rdY_175⟩, rdY_176⟩, rdY_177⟩, rdY_178⟩, rdY_179⟩, rdY_180⟩, rdY_181⟩, rdY_182⟩, rdY_183⟩, rdY_184⟩, rdY_185⟩, rdY_186⟩, rdY_187⟩, rdY_188⟩, rdY_189⟩, rdY_190⟩, rdY_191⟩, rdY_192⟩, rdY_193⟩, rdY_194⟩, rdY_195⟩, rdY_196⟩, rdY_197⟩, rdY_198⟩, rdY_199⟩, rdY_200⟩, rdY_201⟩, rdY_202⟩, rdY_203⟩, rdY_204⟩, rdY_205⟩, rdY_206⟩, rdY_207⟩, rdY_208⟩, rdY_209⟩, rdY_210⟩, rdY_211⟩, rdY_212⟩, rdY_213⟩, rdY_214⟩, rdY_215⟩, rdY_216⟩, rdY_217⟩, rdY_218⟩, rdY_219⟩, rdY_220⟩, rdY_221⟩, rdY_222⟩, rdY_223⟩, rdY_224⟩, rdY_225⟩, rdY_226⟩, rdY_227⟩, rdY_228⟩, rdY_229⟩, rdY_230⟩, rdY_231⟩, rdY_232⟩, rdY_233⟩, rdY_234⟩, rdY_235⟩, rdY_236⟩, rdY_237⟩, rdY_238⟩, rdY_239⟩, rdY_240⟩, rdY_241⟩, rdY_242⟩, rdY_243⟩, rdY_244⟩, rdY_245⟩, rdY_246⟩, rdY_247⟩, rdY_248⟩, rdY_249⟩, rdY_250⟩, rdY_251⟩, rdY_252⟩, rdY_253⟩, rdY_254⟩

theorem rdYs_get : ∀ {m : Nat}, rdYs m → ∀ n, n < m → rdY n
  | 0, _, n, h => by omega
  | m + 1, hr, n, h => by
    rcases Nat.lt_or_ge n m with hl | hl
    · exact rdYs_get hr.1 n hl
    · have e : n = m := by omega
      subst e
      exact hr.2

/-- The rest of a round. -/
theorem restY1_run (K X : List Int) (s : LL) (t bit : Int) : execF (yC true true) 400 (post 1 workY) gn [4, 5, 6, 7, 8, 9, 10, 11, 12] bkY ⟨tmYb t bit, hpY K (tab 32 X) (tabLL s), []⟩ =
    some (.normal, ⟨tmY t, hpY K (tab 32 X) (swLL true (stepLL (tab 32 X) (swLL true (tabLL s)))), [(bit == 1) = true, (bit == 1) = true]⟩) := by kernel_rfl
theorem restY0_run (K X : List Int) (s : LL) (t bit : Int) : execF (yC true false) 400 (post 1 workY) gn [4, 5, 6, 7, 8, 9, 10, 11, 12] bkY ⟨tmYb t bit, hpY K (tab 32 X) (tabLL s), []⟩ =
    some (.normal, ⟨tmY t, hpY K (tab 32 X) (stepLL (tab 32 X) (tabLL s)), [(bit == 1) = false, (bit == 1) = false]⟩) := by kernel_rfl

theorem nextY_run (K X : List Int) (s : LL) (t : Int) : execF (yC true true) 100 (seqR (post 1 loopY)) gn [4, 5, 6, 7, 8, 9, 10, 11, 12] bkY ⟨tmY t, hpY K X s, []⟩ = some (.normal, ⟨tmY (IntKind.i64.wrap (t - 1)), hpY K X s, []⟩) := by kernel_rfl

theorem endY_run (K X : List Int) (s : LL) : endRes (yC true true) Tryd.f15 200 endY ⟨tmY0, hpY K X (tabLL s), []⟩ [] =
    some ⟨.agg .u8 (cM (tab 32 s.x2) (cI (tab 32 s.z2))), [], none, []⟩ := by kernel_rfl

end Go.Proofs.YtechbdggjfahhaaDoor.Sx
