/-
  ladder's Times: its contract.
-/
import Derived.Test.YtechbdggjfahhaaDoorLadderFns
namespace Go.Proofs.YtechbdggjfahhaaDoor.Sx
open Go
set_option maxRecDepth 100000

noncomputable abbrev tF : List (FuncId × (List A → List Blk → Option Res)) :=
  [(12, fTrim), (21, fSwap), (22, fAdd), (23, fSub), (24, fMul), (25, fSquare), (26, fInvert)]
theorem tF_ok : ∀ p ∈ tF, FnOk Tryd.prog gl p.1 p.2 := by
  intro p hp
  simp only [tF, List.mem_cons, List.not_mem_nil, or_false] at hp
  rcases hp with rfl | rfl | rfl | rfl | rfl | rfl | rfl
  · exact trim_ok
  · exact swap_ok
  · exact add_ok
  · exact sub_ok
  · exact mul_ok
  · exact square_ok
  · exact invert_ok

noncomputable abbrev tC (b : Bool) : Ctx := mkh (hintAt 31 b) tF
theorem tC_ok (b : Bool) : (tC b).Ok := mkh_ok tF_ok

noncomputable def bodyT : Code := (Tryd.f14.body).getD .skip
noncomputable def loopT : Code := loopC (blkC (seqR (seqL (post 6 bodyT))))
noncomputable def endT : Code := seqR (post 6 bodyT)
noncomputable def workT : Code := blkC (seqL (post 2 loopT))
theorem bodyT_eq : Tryd.f14.body = some bodyT := by kernel_rfl
theorem postT_eq : post 6 bodyT = .seq (.seq (seqL (seqL (post 6 bodyT))) (.block 0 (.loop loopT))) endT := by kernel_rfl
theorem loopT_eq : post 2 loopT = .seq (.block 1 workT) (seqR (post 2 loopT)) := by kernel_rfl

def tm10 (last : Int) : List A := [.any, .any, .ptr gn 0, .ptr (gn + 1) 0, .ptr (gn + 2) 0, .ptr (gn + 3) 0, .ptr (gn + 4) 0, .ptr (gn + 5) 0, .ptr (gn + 6) 0, .int .u8 last]
def tmT0 (last : Int) : List A := tm10 last ++ List.replicate 114 .any
def tmT (last i : Int) : List A := tm10 last ++ (List.replicate 20 .any ++ (.int .i64 i :: List.replicate 93 .any))
def tmTb (last i bit : Int) : List A := tm10 last ++ ([.any, .any, .int .u8 bit] ++ (List.replicate 17 .any ++ (.int .i64 i :: List.replicate 93 .any)))
def kb (l : List Int) : Blk := ⟨.u8, 23, l, true⟩
def hpT (K U : List Int) (s : LL) : Hp := glz ++ [(gn, kb K), (gn + 1, kb U), (gn + 2, kb (List.replicate 32 0)), (gn + 3, kb s.x2), (gn + 4, kb s.z2), (gn + 5, kb s.x3), (gn + 6, kb s.z3)]
def bkT : List Nat := gks ++ [gn, gn + 1, gn + 2, gn + 3, gn + 4, gn + 5, gn + 6]
def oneL : List Int := 1 :: List.replicate 31 0
def zeroL : List Int := List.replicate 32 0
def tabLL (s : LL) : LL := ⟨tab 32 s.x2, tab 32 s.z2, tab 32 s.x3, tab 32 s.z3⟩

theorem preT_run (k u : List Int) : execF (tC true) 200 (pre 6 bodyT) gn [2, 3, 4, 5, 6, 7, 8, 9] bkT (s0 (tC true) 124 [.agg .u8 (tab 32 k), .agg .u8 (tab 32 u)] []) =
    some (.normal, ⟨tmT0 0, hpT (trimB (tab 32 k)) (maskU (tab 32 u)) ⟨oneL, zeroL, maskU (tab 32 u), oneL⟩, []⟩) := by kernel_rfl
theorem iniT_run (K U : List Int) (s : LL) (last : Int) : execF (tC true) 200 (seqL (seqL (post 6 bodyT))) gn [2, 3, 4, 5, 6, 7, 8, 9, 30] bkT ⟨tmT0 last, hpT K U s, []⟩ = some (.normal, ⟨tmT last 0, hpT K U s, []⟩) := by kernel_rfl
theorem goT_run (K U : List Int) (s : LL) (last i : Int) : execF (tC true) 200 (pre 2 loopT) gn [2, 3, 4, 5, 6, 7, 8, 9, 30] bkT ⟨tmT last i, hpT K U s, []⟩ = some (.normal, ⟨tmT last i, hpT K U s, [decide (i < 255) = true]⟩) := by kernel_rfl
theorem stopT_run (K U : List Int) (s : LL) (last i : Int) : execF (tC false) 200 loopT gn [2, 3, 4, 5, 6, 7, 8, 9] bkT ⟨tmT last i, hpT K U s, []⟩ = some (.exit 0, ⟨tmT0 last, hpT K U s, [decide (i < 255) = false]⟩) := by kernel_rfl

/-- The bit of a round. -/
def rdT (n : Nat) : Prop := ∀ (K U : List Int) (s : LL) (last : Int), execF (tC true) 200 (pre 3 workT) gn [2, 3, 4, 5, 6, 7, 8, 9, 12, 30] bkT ⟨tmT last (n : Int), hpT (tab 32 K) U s, []⟩ =
  some (.normal, ⟨tmTb last (n : Int) (bitR K (254 - n)), hpT (tab 32 K) U s, []⟩)

def rdTs : Nat → Prop
  | 0 => True
  | n + 1 => rdTs n ∧ rdT n

theorem rdT_0 : rdT 0 := fun _ _ _ _ => by kernel_rfl
theorem rdT_1 : rdT 1 := fun _ _ _ _ => by kernel_rfl
theorem rdT_2 : rdT 2 := fun _ _ _ _ => by kernel_rfl
theorem rdT_3 : rdT 3 := fun _ _ _ _ => by kernel_rfl
theorem rdT_4 : rdT 4 := fun _ _ _ _ => by kernel_rfl
theorem rdT_5 : rdT 5 := fun _ _ _ _ => by kernel_rfl
theorem rdT_6 : rdT 6 := fun _ _ _ _ => by kernel_rfl
theorem rdT_7 : rdT 7 := fun _ _ _ _ => by kernel_rfl
theorem rdT_8 : rdT 8 := fun _ _ _ _ => by kernel_rfl
theorem rdT_9 : rdT 9 := fun _ _ _ _ => by kernel_rfl
theorem rdT_10 : rdT 10 := fun _ _ _ _ => by kernel_rfl
theorem rdT_11 : rdT 11 := fun _ _ _ _ => by kernel_rfl
theorem rdT_12 : rdT 12 := fun _ _ _ _ => by kernel_rfl
theorem rdT_13 : rdT 13 := fun _ _ _ _ => by kernel_rfl
theorem rdT_14 : rdT 14 := fun _ _ _ _ => by kernel_rfl
theorem rdT_15 : rdT 15 := fun _ _ _ _ => by kernel_rfl
theorem rdT_16 : rdT 16 := fun _ _ _ _ => by kernel_rfl
theorem rdT_17 : rdT 17 := fun _ _ _ _ => by kernel_rfl
theorem rdT_18 : rdT 18 := fun _ _ _ _ => by kernel_rfl
theorem rdT_19 : rdT 19 := fun _ _ _ _ => by kernel_rfl
theorem rdT_20 : rdT 20 := fun _ _ _ _ => by kernel_rfl
theorem rdT_21 : rdT 21 := fun _ _ _ _ => by kernel_rfl
theorem rdT_22 : rdT 22 := fun _ _ _ _ => by kernel_rfl
theorem rdT_23 : rdT 23 := fun _ _ _ _ => by kernel_rfl
theorem rdT_24 : rdT 24 := fun _ _ _ _ => by kernel_rfl
theorem rdT_25 : rdT 25 := fun _ _ _ _ => by kernel_rfl
theorem rdT_26 : rdT 26 := fun _ _ _ _ => by kernel_rfl
theorem rdT_27 : rdT 27 := fun _ _ _ _ => by kernel_rfl
theorem rdT_28 : rdT 28 := fun _ _ _ _ => by kernel_rfl
theorem rdT_29 : rdT 29 := fun _ _ _ _ => by kernel_rfl
theorem rdT_30 : rdT 30 := fun _ _ _ _ => by kernel_rfl
theorem rdT_31 : rdT 31 := fun _ _ _ _ => by kernel_rfl
theorem rdT_32 : rdT 32 := fun _ _ _ _ => by kernel_rfl
theorem rdT_33 : rdT 33 := fun _ _ _ _ => by kernel_rfl
theorem rdT_34 : rdT 34 := fun _ _ _ _ => by kernel_rfl
theorem rdT_35 : rdT 35 := fun _ _ _ _ => by kernel_rfl
theorem rdT_36 : rdT 36 := fun _ _ _ _ => by kernel_rfl
theorem rdT_37 : rdT 37 := fun _ _ _ _ => by kernel_rfl
theorem rdT_38 : rdT 38 := fun _ _ _ _ => by kernel_rfl
theorem rdT_39 : rdT 39 := fun _ _ _ _ => by kernel_rfl
theorem rdT_40 : rdT 40 := fun _ _ _ _ => by kernel_rfl
theorem rdT_41 : rdT 41 := fun _ _ _ _ => by kernel_rfl
theorem rdT_42 : rdT 42 := fun _ _ _ _ => by kernel_rfl
theorem rdT_43 : rdT 43 := fun _ _ _ _ => by kernel_rfl
theorem rdT_44 : rdT 44 := fun _ _ _ _ => by kernel_rfl
theorem rdT_45 : rdT 45 := fun _ _ _ _ => by kernel_rfl
theorem rdT_46 : rdT 46 := fun _ _ _ _ => by kernel_rfl
theorem rdT_47 : rdT 47 := fun _ _ _ _ => by kernel_rfl
theorem rdT_48 : rdT 48 := fun _ _ _ _ => by kernel_rfl
theorem rdT_49 : rdT 49 := fun _ _ _ _ => by kernel_rfl
theorem rdT_50 : rdT 50 := fun _ _ _ _ => by kernel_rfl
theorem rdT_51 : rdT 51 := fun _ _ _ _ => by kernel_rfl
theorem rdT_52 : rdT 52 := fun _ _ _ _ => by kernel_rfl
theorem rdT_53 : rdT 53 := fun _ _ _ _ => by kernel_rfl
theorem rdT_54 : rdT 54 := fun _ _ _ _ => by kernel_rfl
theorem rdT_55 : rdT 55 := fun _ _ _ _ => by kernel_rfl
theorem rdT_56 : rdT 56 := fun _ _ _ _ => by kernel_rfl
theorem rdT_57 : rdT 57 := fun _ _ _ _ => by kernel_rfl
theorem rdT_58 : rdT 58 := fun _ _ _ _ => by kernel_rfl
theorem rdT_59 : rdT 59 := fun _ _ _ _ => by kernel_rfl
theorem rdT_60 : rdT 60 := fun _ _ _ _ => by kernel_rfl
theorem rdT_61 : rdT 61 := fun _ _ _ _ => by kernel_rfl
theorem rdT_62 : rdT 62 := fun _ _ _ _ => by kernel_rfl
theorem rdT_63 : rdT 63 := fun _ _ _ _ => by kernel_rfl
theorem rdT_64 : rdT 64 := fun _ _ _ _ => by kernel_rfl
theorem rdT_65 : rdT 65 := fun _ _ _ _ => by kernel_rfl
theorem rdT_66 : rdT 66 := fun _ _ _ _ => by kernel_rfl
theorem rdT_67 : rdT 67 := fun _ _ _ _ => by kernel_rfl
theorem rdT_68 : rdT 68 := fun _ _ _ _ => by kernel_rfl
theorem rdT_69 : rdT 69 := fun _ _ _ _ => by kernel_rfl
theorem rdT_70 : rdT 70 := fun _ _ _ _ => by kernel_rfl
theorem rdT_71 : rdT 71 := fun _ _ _ _ => by kernel_rfl
theorem rdT_72 : rdT 72 := fun _ _ _ _ => by kernel_rfl
theorem rdT_73 : rdT 73 := fun _ _ _ _ => by kernel_rfl
theorem rdT_74 : rdT 74 := fun _ _ _ _ => by kernel_rfl
theorem rdT_75 : rdT 75 := fun _ _ _ _ => by kernel_rfl
theorem rdT_76 : rdT 76 := fun _ _ _ _ => by kernel_rfl
theorem rdT_77 : rdT 77 := fun _ _ _ _ => by kernel_rfl
theorem rdT_78 : rdT 78 := fun _ _ _ _ => by kernel_rfl
theorem rdT_79 : rdT 79 := fun _ _ _ _ => by kernel_rfl
theorem rdT_80 : rdT 80 := fun _ _ _ _ => by kernel_rfl
theorem rdT_81 : rdT 81 := fun _ _ _ _ => by kernel_rfl
theorem rdT_82 : rdT 82 := fun _ _ _ _ => by kernel_rfl
theorem rdT_83 : rdT 83 := fun _ _ _ _ => by kernel_rfl
theorem rdT_84 : rdT 84 := fun _ _ _ _ => by kernel_rfl
theorem rdT_85 : rdT 85 := fun _ _ _ _ => by kernel_rfl
theorem rdT_86 : rdT 86 := fun _ _ _ _ => by kernel_rfl
theorem rdT_87 : rdT 87 := fun _ _ _ _ => by kernel_rfl
theorem rdT_88 : rdT 88 := fun _ _ _ _ => by kernel_rfl
theorem rdT_89 : rdT 89 := fun _ _ _ _ => by kernel_rfl
theorem rdT_90 : rdT 90 := fun _ _ _ _ => by kernel_rfl
theorem rdT_91 : rdT 91 := fun _ _ _ _ => by kernel_rfl
theorem rdT_92 : rdT 92 := fun _ _ _ _ => by kernel_rfl
theorem rdT_93 : rdT 93 := fun _ _ _ _ => by kernel_rfl
theorem rdT_94 : rdT 94 := fun _ _ _ _ => by kernel_rfl
theorem rdT_95 : rdT 95 := fun _ _ _ _ => by kernel_rfl
theorem rdT_96 : rdT 96 := fun _ _ _ _ => by kernel_rfl
theorem rdT_97 : rdT 97 := fun _ _ _ _ => by kernel_rfl
theorem rdT_98 : rdT 98 := fun _ _ _ _ => by kernel_rfl
theorem rdT_99 : rdT 99 := fun _ _ _ _ => by kernel_rfl
theorem rdT_100 : rdT 100 := fun _ _ _ _ => by kernel_rfl
theorem rdT_101 : rdT 101 := fun _ _ _ _ => by kernel_rfl
theorem rdT_102 : rdT 102 := fun _ _ _ _ => by kernel_rfl
theorem rdT_103 : rdT 103 := fun _ _ _ _ => by kernel_rfl
theorem rdT_104 : rdT 104 := fun _ _ _ _ => by kernel_rfl
theorem rdT_105 : rdT 105 := fun _ _ _ _ => by kernel_rfl
theorem rdT_106 : rdT 106 := fun _ _ _ _ => by kernel_rfl
theorem rdT_107 : rdT 107 := fun _ _ _ _ => by kernel_rfl
theorem rdT_108 : rdT 108 := fun _ _ _ _ => by kernel_rfl
theorem rdT_109 : rdT 109 := fun _ _ _ _ => by kernel_rfl
theorem rdT_110 : rdT 110 := fun _ _ _ _ => by kernel_rfl
theorem rdT_111 : rdT 111 := fun _ _ _ _ => by kernel_rfl
theorem rdT_112 : rdT 112 := fun _ _ _ _ => by kernel_rfl
theorem rdT_113 : rdT 113 := fun _ _ _ _ => by kernel_rfl
theorem rdT_114 : rdT 114 := fun _ _ _ _ => by kernel_rfl
theorem rdT_115 : rdT 115 := fun _ _ _ _ => by kernel_rfl
theorem rdT_116 : rdT 116 := fun _ _ _ _ => by kernel_rfl
theorem rdT_117 : rdT 117 := fun _ _ _ _ => by kernel_rfl
theorem rdT_118 : rdT 118 := fun _ _ _ _ => by kernel_rfl
theorem rdT_119 : rdT 119 := fun _ _ _ _ => by kernel_rfl
theorem rdT_120 : rdT 120 := fun _ _ _ _ => by kernel_rfl
theorem rdT_121 : rdT 121 := fun _ _ _ _ => by kernel_rfl
theorem rdT_122 : rdT 122 := fun _ _ _ _ => by kernel_rfl
theorem rdT_123 : rdT 123 := fun _ _ _ _ => by kernel_rfl
theorem rdT_124 : rdT 124 := fun _ _ _ _ => by kernel_rfl
theorem rdT_125 : rdT 125 := fun _ _ _ _ => by kernel_rfl
theorem rdT_126 : rdT 126 := fun _ _ _ _ => by kernel_rfl
theorem rdT_127 : rdT 127 := fun _ _ _ _ => by kernel_rfl
theorem rdT_128 : rdT 128 := fun _ _ _ _ => by kernel_rfl
theorem rdT_129 : rdT 129 := fun _ _ _ _ => by kernel_rfl
theorem rdT_130 : rdT 130 := fun _ _ _ _ => by kernel_rfl
theorem rdT_131 : rdT 131 := fun _ _ _ _ => by kernel_rfl
theorem rdT_132 : rdT 132 := fun _ _ _ _ => by kernel_rfl
theorem rdT_133 : rdT 133 := fun _ _ _ _ => by kernel_rfl
theorem rdT_134 : rdT 134 := fun _ _ _ _ => by kernel_rfl
theorem rdT_135 : rdT 135 := fun _ _ _ _ => by kernel_rfl
theorem rdT_136 : rdT 136 := fun _ _ _ _ => by kernel_rfl
theorem rdT_137 : rdT 137 := fun _ _ _ _ => by kernel_rfl
theorem rdT_138 : rdT 138 := fun _ _ _ _ => by kernel_rfl
theorem rdT_139 : rdT 139 := fun _ _ _ _ => by kernel_rfl
theorem rdT_140 : rdT 140 := fun _ _ _ _ => by kernel_rfl
theorem rdT_141 : rdT 141 := fun _ _ _ _ => by kernel_rfl
theorem rdT_142 : rdT 142 := fun _ _ _ _ => by kernel_rfl
theorem rdT_143 : rdT 143 := fun _ _ _ _ => by kernel_rfl
theorem rdT_144 : rdT 144 := fun _ _ _ _ => by kernel_rfl
theorem rdT_145 : rdT 145 := fun _ _ _ _ => by kernel_rfl
theorem rdT_146 : rdT 146 := fun _ _ _ _ => by kernel_rfl
theorem rdT_147 : rdT 147 := fun _ _ _ _ => by kernel_rfl
theorem rdT_148 : rdT 148 := fun _ _ _ _ => by kernel_rfl
theorem rdT_149 : rdT 149 := fun _ _ _ _ => by kernel_rfl
theorem rdT_150 : rdT 150 := fun _ _ _ _ => by kernel_rfl
theorem rdT_151 : rdT 151 := fun _ _ _ _ => by kernel_rfl
theorem rdT_152 : rdT 152 := fun _ _ _ _ => by kernel_rfl
theorem rdT_153 : rdT 153 := fun _ _ _ _ => by kernel_rfl
theorem rdT_154 : rdT 154 := fun _ _ _ _ => by kernel_rfl
theorem rdT_155 : rdT 155 := fun _ _ _ _ => by kernel_rfl
theorem rdT_156 : rdT 156 := fun _ _ _ _ => by kernel_rfl
theorem rdT_157 : rdT 157 := fun _ _ _ _ => by kernel_rfl
theorem rdT_158 : rdT 158 := fun _ _ _ _ => by kernel_rfl
theorem rdT_159 : rdT 159 := fun _ _ _ _ => by kernel_rfl
theorem rdT_160 : rdT 160 := fun _ _ _ _ => by kernel_rfl
theorem rdT_161 : rdT 161 := fun _ _ _ _ => by kernel_rfl
theorem rdT_162 : rdT 162 := fun _ _ _ _ => by kernel_rfl
theorem rdT_163 : rdT 163 := fun _ _ _ _ => by kernel_rfl
theorem rdT_164 : rdT 164 := fun _ _ _ _ => by kernel_rfl
theorem rdT_165 : rdT 165 := fun _ _ _ _ => by kernel_rfl
theorem rdT_166 : rdT 166 := fun _ _ _ _ => by kernel_rfl
theorem rdT_167 : rdT 167 := fun _ _ _ _ => by kernel_rfl
theorem rdT_168 : rdT 168 := fun _ _ _ _ => by kernel_rfl
theorem rdT_169 : rdT 169 := fun _ _ _ _ => by kernel_rfl
theorem rdT_170 : rdT 170 := fun _ _ _ _ => by kernel_rfl
theorem rdT_171 : rdT 171 := fun _ _ _ _ => by kernel_rfl
theorem rdT_172 : rdT 172 := fun _ _ _ _ => by kernel_rfl
theorem rdT_173 : rdT 173 := fun _ _ _ _ => by kernel_rfl
theorem rdT_174 : rdT 174 := fun _ _ _ _ => by kernel_rfl
theorem rdT_175 : rdT 175 := fun _ _ _ _ => by kernel_rfl
theorem rdT_176 : rdT 176 := fun _ _ _ _ => by kernel_rfl
theorem rdT_177 : rdT 177 := fun _ _ _ _ => by kernel_rfl
theorem rdT_178 : rdT 178 := fun _ _ _ _ => by kernel_rfl
theorem rdT_179 : rdT 179 := fun _ _ _ _ => by kernel_rfl
theorem rdT_180 : rdT 180 := fun _ _ _ _ => by kernel_rfl
theorem rdT_181 : rdT 181 := fun _ _ _ _ => by kernel_rfl
theorem rdT_182 : rdT 182 := fun _ _ _ _ => by kernel_rfl
theorem rdT_183 : rdT 183 := fun _ _ _ _ => by kernel_rfl
theorem rdT_184 : rdT 184 := fun _ _ _ _ => by kernel_rfl
theorem rdT_185 : rdT 185 := fun _ _ _ _ => by kernel_rfl
theorem rdT_186 : rdT 186 := fun _ _ _ _ => by kernel_rfl
theorem rdT_187 : rdT 187 := fun _ _ _ _ => by kernel_rfl
theorem rdT_188 : rdT 188 := fun _ _ _ _ => by kernel_rfl
theorem rdT_189 : rdT 189 := fun _ _ _ _ => by kernel_rfl
theorem rdT_190 : rdT 190 := fun _ _ _ _ => by kernel_rfl
theorem rdT_191 : rdT 191 := fun _ _ _ _ => by kernel_rfl
theorem rdT_192 : rdT 192 := fun _ _ _ _ => by kernel_rfl
theorem rdT_193 : rdT 193 := fun _ _ _ _ => by kernel_rfl
theorem rdT_194 : rdT 194 := fun _ _ _ _ => by kernel_rfl
theorem rdT_195 : rdT 195 := fun _ _ _ _ => by kernel_rfl
theorem rdT_196 : rdT 196 := fun _ _ _ _ => by kernel_rfl
theorem rdT_197 : rdT 197 := fun _ _ _ _ => by kernel_rfl
theorem rdT_198 : rdT 198 := fun _ _ _ _ => by kernel_rfl
theorem rdT_199 : rdT 199 := fun _ _ _ _ => by kernel_rfl
theorem rdT_200 : rdT 200 := fun _ _ _ _ => by kernel_rfl
theorem rdT_201 : rdT 201 := fun _ _ _ _ => by kernel_rfl
theorem rdT_202 : rdT 202 := fun _ _ _ _ => by kernel_rfl
theorem rdT_203 : rdT 203 := fun _ _ _ _ => by kernel_rfl
theorem rdT_204 : rdT 204 := fun _ _ _ _ => by kernel_rfl
theorem rdT_205 : rdT 205 := fun _ _ _ _ => by kernel_rfl
theorem rdT_206 : rdT 206 := fun _ _ _ _ => by kernel_rfl
theorem rdT_207 : rdT 207 := fun _ _ _ _ => by kernel_rfl
theorem rdT_208 : rdT 208 := fun _ _ _ _ => by kernel_rfl
theorem rdT_209 : rdT 209 := fun _ _ _ _ => by kernel_rfl
theorem rdT_210 : rdT 210 := fun _ _ _ _ => by kernel_rfl
theorem rdT_211 : rdT 211 := fun _ _ _ _ => by kernel_rfl
theorem rdT_212 : rdT 212 := fun _ _ _ _ => by kernel_rfl
theorem rdT_213 : rdT 213 := fun _ _ _ _ => by kernel_rfl
theorem rdT_214 : rdT 214 := fun _ _ _ _ => by kernel_rfl
theorem rdT_215 : rdT 215 := fun _ _ _ _ => by kernel_rfl
theorem rdT_216 : rdT 216 := fun _ _ _ _ => by kernel_rfl
theorem rdT_217 : rdT 217 := fun _ _ _ _ => by kernel_rfl
theorem rdT_218 : rdT 218 := fun _ _ _ _ => by kernel_rfl
theorem rdT_219 : rdT 219 := fun _ _ _ _ => by kernel_rfl
theorem rdT_220 : rdT 220 := fun _ _ _ _ => by kernel_rfl
theorem rdT_221 : rdT 221 := fun _ _ _ _ => by kernel_rfl
theorem rdT_222 : rdT 222 := fun _ _ _ _ => by kernel_rfl
theorem rdT_223 : rdT 223 := fun _ _ _ _ => by kernel_rfl
theorem rdT_224 : rdT 224 := fun _ _ _ _ => by kernel_rfl
theorem rdT_225 : rdT 225 := fun _ _ _ _ => by kernel_rfl
theorem rdT_226 : rdT 226 := fun _ _ _ _ => by kernel_rfl
theorem rdT_227 : rdT 227 := fun _ _ _ _ => by kernel_rfl
theorem rdT_228 : rdT 228 := fun _ _ _ _ => by kernel_rfl
theorem rdT_229 : rdT 229 := fun _ _ _ _ => by kernel_rfl
theorem rdT_230 : rdT 230 := fun _ _ _ _ => by kernel_rfl
theorem rdT_231 : rdT 231 := fun _ _ _ _ => by kernel_rfl
theorem rdT_232 : rdT 232 := fun _ _ _ _ => by kernel_rfl
theorem rdT_233 : rdT 233 := fun _ _ _ _ => by kernel_rfl
theorem rdT_234 : rdT 234 := fun _ _ _ _ => by kernel_rfl
theorem rdT_235 : rdT 235 := fun _ _ _ _ => by kernel_rfl
theorem rdT_236 : rdT 236 := fun _ _ _ _ => by kernel_rfl
theorem rdT_237 : rdT 237 := fun _ _ _ _ => by kernel_rfl
theorem rdT_238 : rdT 238 := fun _ _ _ _ => by kernel_rfl
theorem rdT_239 : rdT 239 := fun _ _ _ _ => by kernel_rfl
theorem rdT_240 : rdT 240 := fun _ _ _ _ => by kernel_rfl
theorem rdT_241 : rdT 241 := fun _ _ _ _ => by kernel_rfl
theorem rdT_242 : rdT 242 := fun _ _ _ _ => by kernel_rfl
theorem rdT_243 : rdT 243 := fun _ _ _ _ => by kernel_rfl
theorem rdT_244 : rdT 244 := fun _ _ _ _ => by kernel_rfl
theorem rdT_245 : rdT 245 := fun _ _ _ _ => by kernel_rfl
theorem rdT_246 : rdT 246 := fun _ _ _ _ => by kernel_rfl
theorem rdT_247 : rdT 247 := fun _ _ _ _ => by kernel_rfl
theorem rdT_248 : rdT 248 := fun _ _ _ _ => by kernel_rfl
theorem rdT_249 : rdT 249 := fun _ _ _ _ => by kernel_rfl
theorem rdT_250 : rdT 250 := fun _ _ _ _ => by kernel_rfl
theorem rdT_251 : rdT 251 := fun _ _ _ _ => by kernel_rfl
theorem rdT_252 : rdT 252 := fun _ _ _ _ => by kernel_rfl
theorem rdT_253 : rdT 253 := fun _ _ _ _ => by kernel_rfl
theorem rdT_254 : rdT 254 := fun _ _ _ _ => by kernel_rfl
theorem rdT_all : rdTs 255 := ⟨⟨⟨⟨⟨⟨⟨⟨⟨⟨⟨⟨⟨⟨⟨⟨⟨⟨⟨⟨⟨⟨⟨⟨⟨⟨⟨⟨⟨⟨⟨⟨⟨⟨⟨⟨⟨⟨⟨⟨⟨⟨⟨⟨⟨⟨⟨⟨⟨⟨⟨⟨⟨⟨⟨⟨⟨⟨⟨⟨⟨⟨⟨⟨⟨⟨⟨⟨⟨⟨⟨⟨⟨⟨⟨⟨⟨⟨⟨⟨⟨⟨⟨⟨⟨⟨⟨⟨⟨⟨⟨⟨⟨⟨⟨⟨⟨⟨⟨⟨⟨⟨⟨⟨⟨⟨⟨⟨⟨⟨⟨⟨⟨⟨⟨⟨⟨⟨⟨⟨⟨⟨⟨⟨⟨⟨⟨⟨⟨⟨⟨⟨⟨⟨⟨⟨⟨⟨⟨⟨⟨⟨⟨⟨⟨⟨⟨⟨⟨⟨⟨⟨⟨⟨⟨⟨⟨⟨⟨⟨⟨⟨⟨⟨⟨⟨⟨⟨⟨⟨⟨⟨⟨⟨⟨⟨⟨⟨⟨⟨⟨⟨⟨⟨⟨⟨⟨⟨⟨⟨⟨⟨⟨⟨⟨⟨⟨⟨⟨⟨⟨⟨⟨⟨⟨⟨⟨⟨⟨⟨⟨⟨⟨⟨⟨⟨⟨⟨⟨⟨⟨⟨⟨⟨⟨⟨⟨⟨⟨⟨⟨⟨⟨⟨⟨⟨⟨⟨⟨⟨⟨⟨⟨⟨⟨⟨⟨⟨⟨⟨⟨⟨⟨⟨⟨trivial, rdT_0⟩, rdT_1⟩, rdT_2⟩, rdT_3⟩, rdT_4⟩, rdT_5⟩, rdT_6⟩, rdT_7⟩, rdT_8⟩, rdT_9⟩, rdT_10⟩, rdT_11⟩, rdT_12⟩, rdT_13⟩, rdT_14⟩, rdT_15⟩, rdT_16⟩, rdT_17⟩, rdT_18⟩, rdT_19⟩, rdT_20⟩, rdT_21⟩, rdT_22⟩, rdT_23⟩, rdT_24⟩, rdT_25⟩, rdT_26⟩, rdT_27⟩, rdT_28⟩, rdT_29⟩, rdT_30⟩, rdT_31⟩, rdT_32⟩, rdT_33⟩, rdT_34⟩, rdT_35⟩, rdT_36⟩, rdT_37⟩, rdT_38⟩, rdT_39⟩, rdT_40⟩, rdT_41⟩, rdT_42⟩, rdT_43⟩, rdT_44⟩, rdT_45⟩, rdT_46⟩, rdT_47⟩, rdT_48⟩, rdT_49⟩, rdT_50⟩, rdT_51⟩, rdT_52⟩, rdT_53⟩, rdT_54⟩, rdT_55⟩, rdT_56⟩, rdT_57⟩, rdT_58⟩, rdT_59⟩, rdT_60⟩, rdT_61⟩, rdT_62⟩, rdT_63⟩, rdT_64⟩, rdT_65⟩, rdT_66⟩, rdT_67⟩, rdT_68⟩, rdT_69⟩, rdT_70⟩, rdT_71⟩, rdT_72⟩, rdT_73⟩, rdT_74⟩, rdT_75⟩, rdT_76⟩, rdT_77⟩, rdT_78⟩, rdT_79⟩, rdT_80⟩, rdT_81⟩, rdT_82⟩, rdT_83⟩, rdT_84⟩, rdT_85⟩, rdT_86⟩, rdT_87⟩, rdT_88⟩, rdT_89⟩, rdT_90⟩, rdT_91⟩, rdT_92⟩, rdT_93⟩, rdT_94⟩, rdT_95⟩, rdT_96⟩, rdT_97⟩, rdT_98⟩, rdT_99⟩, rdT_100⟩, rdT_101⟩, rdT_102⟩, rdT_103⟩, rdT_104⟩, rdT_105⟩, rdT_106⟩, rdT_107⟩, rdT_108⟩, rdT_109⟩, rdT_110⟩, rdT_111⟩, rdT_112⟩, rdT_113⟩, rdT_114⟩, rdT_115⟩, rdT_116⟩, rdT_117⟩, rdT_118⟩, rdT_119⟩, rdT_120⟩, rdT_121⟩, rdT_122⟩, rdT_123⟩, rdT_124⟩, rdT_125⟩, rdT_126⟩, rdT_127⟩, rdT_128⟩, rdT_129⟩, rdT_130⟩, rdT_131⟩, rdT_132⟩, rdT_133⟩, rdT_134⟩, rdT_135⟩, rdT_136⟩, rdT_137⟩, rdT_138⟩, rdT_139⟩, rdT_140⟩, rdT_141⟩, rdT_142⟩, rdT_143⟩, rdT_144⟩, rdT_145⟩, rdT_146⟩, rdT_147⟩, rdT_148⟩, rdT_149⟩, rdT_150⟩, rdT_151⟩, rdT_152⟩, rdT_153⟩, rdT_154⟩, rdT_155⟩, rdT_156⟩, rdT_157⟩, rdT_158⟩, rdT_159⟩, rdT_160⟩, rdT_161⟩, rdT_162⟩, rdT_163⟩, rdT_164⟩, rdT_165⟩, rdT_166⟩, rdT_167⟩, rdT_168⟩, rdT_169⟩, rdT_170⟩, rdT_171⟩, rdT_172⟩, rdT_173⟩, rdT_174⟩, rdT_175⟩, rdT_176⟩, rdT_177⟩, rdT_178⟩, rdT_179⟩, rdT_180⟩, rdT_181⟩, rdT_182⟩, rdT_183⟩, rdT_184⟩, rdT_185⟩, rdT_186⟩, rdT_187⟩, rdT_188⟩, rdT_189⟩, rdT_190⟩, rdT_191⟩, rdT_192⟩, rdT_193⟩, rdT_194⟩, rdT_195⟩, rdT_196⟩, rdT_197⟩, rdT_198⟩, rdT_199⟩, rdT_200⟩, rdT_201⟩, rdT_202⟩, rdT_203⟩, rdT_204⟩, rdT_205⟩, rdT_206⟩, rdT_207⟩, rdT_208⟩, rdT_209⟩, rdT_210⟩, rdT_211⟩, rdT_212⟩, rdT_213⟩, rdT_214⟩, rdT_215⟩, rdT_216⟩, rdT_217⟩, rdT_218⟩, rdT_219⟩, rdT_220⟩, rdT_221⟩, rdT_222⟩, rdT_223⟩, rdT_224⟩, rdT_225⟩, rdT_226⟩, rdT_227⟩, rdT_228⟩, rdT_229⟩, rdT_230⟩, rdT_231⟩, rdT_232⟩, rdT_233⟩, rdT_234⟩, rdT_235⟩, rdT_236⟩, rdT_237⟩, rdT_238⟩, rdT_239⟩, rdT_240⟩, rdT_241⟩, rdT_242⟩, rdT_243⟩, rdT_244⟩, rdT_245⟩, rdT_246⟩, rdT_247⟩, rdT_248⟩, rdT_249⟩, rdT_250⟩, rdT_251⟩, rdT_252⟩, rdT_253⟩, rdT_254⟩

theorem rdTs_get : ∀ {m : Nat}, rdTs m → ∀ n, n < m → rdT n
  | 0, _, n, h => by omega
  | m + 1, hr, n, h => by
    rcases Nat.lt_or_ge n m with hl | hl
    · exact rdTs_get hr.1 n hl
    · have e : n = m := by omega
      subst e
      exact hr.2

/-- The rest of a round. -/
theorem restT_run (K U : List Int) (s : LL) (last i bit : Int) : execF (tC true) 400 (post 3 workT) gn [2, 3, 4, 5, 6, 7, 8, 9, 30] bkT ⟨tmTb last i bit, hpT K (tab 32 U) (tabLL s), []⟩ =
    some (.normal, ⟨tmT bit i, hpT K (tab 32 U) (stepLL (tab 32 U) (swapLL (bits .xor .u8 bit last) (tabLL s))), []⟩) := by kernel_rfl

theorem nextT_run (K U : List Int) (s : LL) (last i : Int) : execF (tC true) 100 (seqR (post 2 loopT)) gn [2, 3, 4, 5, 6, 7, 8, 9, 30] bkT ⟨tmT last i, hpT K U s, []⟩ = some (.normal, ⟨tmT last (IntKind.i64.wrap (i + 1)), hpT K U s, []⟩) := by kernel_rfl

theorem endT_run (K U : List Int) (s : LL) (last : Int) : endRes (tC true) Tryd.f14 200 endT ⟨tmT0 last, hpT K U (tabLL s), []⟩ [] =
    some ⟨.agg .u8 (cM (cP last (tab 32 s.x2) (tab 32 s.x3)) (cI (cP last (tab 32 s.z2) (tab 32 s.z3)))), [], none, []⟩ := by kernel_rfl

end Go.Proofs.YtechbdggjfahhaaDoor.Sx
