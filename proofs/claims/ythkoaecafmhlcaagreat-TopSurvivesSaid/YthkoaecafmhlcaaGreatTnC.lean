/- TopSurvives, walked in pieces: the part from tail 10 on. -/
import Derived.Test.YthkoaecafmhlcaaGreatTnD
namespace Go.Proofs.YthkoaecafmhlcaaGreat
open Go.RowKit
attribute [local go_sem ↓] run_max_mx run_min_mn
attribute [local simp] size_drewT
set_option maxRecDepth 1000000 in
set_option maxHeartbeats 16000000 in
theorem TopS_C {f_0 f_1 f_5 f_6 f_7 f_8 f_9 f_10 f_12 f_14 f_15 f_17 f_18 f_19 f_20 f_21 f_24 f_25 f_26 f_27 f_28 f_29 f_30 f_31 f_32 f_33 f_34 f_35 f_36 f_37 f_38 f_39 f_40 f_41 f_42 f_43 f_44 f_45 f_46 f_47 f_48 f_49 f_50 f_51 f_52 f_53 f_54 f_55 f_56 f_57 f_58 f_59 f_60 f_61 f_62 f_63 f_64 f_65 f_66 f_67 f_68 f_69 f_70 f_71 f_72 f_73 f_74 f_75 f_76 f_77 f_78 f_79 f_80 f_81 f_82 f_83 f_84 f_85 f_86 f_87 f_88 f_89 f_90 f_91 f_92 f_93 f_94 f_95 f_96 f_97 f_98 f_99 f_100 f_101 f_102 f_103 f_104 f_105 f_106 f_107 f_108 f_109 f_110 f_111 f_112 f_113 f_114 f_115 f_116 f_117 f_118 f_119 f_120 f_121 f_122 f_123 f_124 f_125 f_126 f_127 f_128 f_129 f_130 f_131 f_132 f_133 f_134 f_135 f_136 f_137 f_138 f_139 f_140 f_141 f_142 f_143 f_144 f_145 f_146 f_147 f_148 f_149 f_150 f_151 f_152 f_153 f_154 f_155 f_156 f_157 f_158 f_159 f_160 f_161 f_162 f_163 f_164 f_165 f_166 f_167 f_168 f_169 f_170 f_171 f_172 f_173 f_174 f_175 f_176 f_177 f_178 f_179 f_180 f_181 f_182 f_183 f_184 f_185 f_186 f_187 f_188 f_189 f_190 f_191 f_192 f_193 f_194 f_195 f_196 f_197 f_198 f_199 f_200 f_201 f_202 f_203 f_204 f_205 f_206 f_207 f_208 f_209 f_210 f_211 f_212 f_213 f_214 f_215 f_216 f_217 f_218 f_219 f_220 f_221 f_222 f_223 f_224 f_225 f_226 f_227 f_228 f_229 f_230 f_231 f_232 f_233 f_234 f_235 f_236 f_237 f_238 f_239 f_240 f_241 f_242 f_243 f_244 f_245 f_246 f_247 f_248 f_249 f_250 f_251 f_252 f_253 f_254 f_255 f_256 f_257 f_258 f_259 f_260 f_261 f_262 f_263 f_264 f_265 f_266 f_267 f_268 f_269 f_270 f_271 f_272 f_273 f_274 f_275 f_276 f_277 f_278 f_279 f_280 f_281 f_282 f_283 f_284 f_285 f_286 f_287 f_288 f_289 f_290 f_291 f_292 f_293 f_294 f_295 f_296 f_297 f_298 f_299 f_300 f_301 f_302 f_303 f_304 f_305 f_306 f_307 f_308 f_309 f_310 f_311 f_312 f_313 f_314 f_315 f_316 f_317 f_318 f_319 f_320 f_321 f_322 f_323 f_324 f_325 f_326 f_327 f_328 f_329 f_330 f_331 f_332 f_333 f_334 f_335 f_336 f_337 f_338 f_339 f_340 f_341 f_342 f_343 f_344 f_345 f_346 f_347 f_348 f_349 f_350 f_351 f_352 f_353 f_354 f_355 f_356 f_357 f_358 f_359 f_360 f_361 f_362 f_363 : Value} {ni nt now LT naf nlf nrt key which lost c0 c1 c2 : Int} {nlk : Bool} {nra nwa sa oa da : Option Addr} {nrc nwc sn sc on oc dc m base BC : Nat} {nrl : List (Int × Int)} {nwl : List Wr} {D : List Tx} {w wM : World} {B2 gn gc cc : Nat} {ga ca : Option Addr} {js : List Nat} (hlost : 0 ≤ lost ∧ lost ≤ 255) (hkey : 1 ≤ key ∧ key ≤ 1000) (hwhich : 0 ≤ which ∧ which ≤ 255) (hLT : LT ≤ 60000000000) (hnow : 0 ≤ now ∧ now ≤ 60000000000) (hnlf : 0 ≤ nlf ∧ nlf ≤ 65535) (hnrt : 0 ≤ nrt ∧ nrt ≤ 65535) (HG : Hid (GoodD D)) (hDl12 : D.length ≤ 12) (HLen : Hid (on = (ldOf D m).opn.length ∧ sn = (ldOf D m).st.length ∧ LT = topTs D)) (HGn : Hid (gn = (logB D).length)) (HJ3 : Hid (js.length = 3)) (HJ : Hid (∀ j, j ∈ js → j ≤ D.length)) (HXm : Hid (∀ V : World, Below wM.heap.size wM V → BxC V w.heap.size [.int .u16 c0, .int .u16 c1, .int .u16 c2] ∧ BxC V (w.heap.size + 1) [.int .i64 ni, .int .i64 nt, .slice nra nrl.length nrc, .slice nwa nwl.length nwc, .int .u32 naf, .int .u16 nlf, .int .u16 nrt, .bool nlk] ∧ BxC V BC [.int .i64 LT, .slice sa sn sc, .slice oa on oc, .slice da D.length dc, .int .i64 now, .bool true] ∧ RunS V base D m (.slice sa sn sc) (.slice oa on oc) (.slice da D.length dc) ∧ TvRd V (.slice nra nrl.length nrc) (.slice nwa nwl.length nwc) ⟨ni, nt, nrl, nwl⟩)) (HRow : Hid (∀ V : World, Below wM.heap.size wM V → CpR V (.slice ca 3 cc) (cps D js))) (HPr : Hid (∀ V : World, Below wM.heap.size wM V → BxC V B2 (prt (fun j => .slice ga (logB (D.take j)).length gc) js))) (HLm : Hid (∀ V : World, Below wM.heap.size wM V → BRow V (.slice ga gn gc) (logB D))) (HBm : Hid (Below w.heap.size w wM)) {K : Act → World → Prop} (hK : ∀ a w', (seqTail 11 bodyTop).wp Tryz.prog (postTop w) a w' → K a w') : (seqHead (seqTail 10 bodyTop)).wp Tryz.prog (Exit.then K (postTop w)) ⟨List.toArray (f_0 :: f_1 :: .int .u8 lost :: .int .i64 key :: .int .u8 which :: f_5 :: f_6 :: f_7 :: f_8 :: f_9 :: f_10 :: .pointer (some ⟨w.heap.size + 1, 0, none⟩) :: f_12 :: .bool true :: f_14 :: f_15 :: .pointer (some ⟨BC, 0, none⟩) :: f_17 :: f_18 :: f_19 :: f_20 :: f_21 :: .slice ca 3 cc :: .pointer (some ⟨B2, 0, none⟩) :: f_24 :: f_25 :: f_26 :: f_27 :: f_28 :: f_29 :: f_30 :: f_31 :: f_32 :: f_33 :: f_34 :: f_35 :: f_36 :: f_37 :: f_38 :: f_39 :: f_40 :: f_41 :: f_42 :: f_43 :: f_44 :: f_45 :: f_46 :: f_47 :: f_48 :: f_49 :: f_50 :: f_51 :: f_52 :: f_53 :: f_54 :: f_55 :: f_56 :: f_57 :: f_58 :: f_59 :: f_60 :: f_61 :: f_62 :: f_63 :: f_64 :: f_65 :: f_66 :: f_67 :: f_68 :: f_69 :: f_70 :: f_71 :: f_72 :: f_73 :: f_74 :: f_75 :: f_76 :: f_77 :: f_78 :: f_79 :: f_80 :: f_81 :: f_82 :: f_83 :: f_84 :: f_85 :: f_86 :: f_87 :: f_88 :: f_89 :: f_90 :: f_91 :: f_92 :: f_93 :: f_94 :: f_95 :: f_96 :: f_97 :: f_98 :: f_99 :: f_100 :: f_101 :: f_102 :: f_103 :: f_104 :: f_105 :: f_106 :: f_107 :: f_108 :: f_109 :: f_110 :: f_111 :: f_112 :: f_113 :: f_114 :: f_115 :: f_116 :: f_117 :: f_118 :: f_119 :: f_120 :: f_121 :: f_122 :: f_123 :: f_124 :: f_125 :: f_126 :: f_127 :: f_128 :: f_129 :: f_130 :: f_131 :: f_132 :: f_133 :: f_134 :: f_135 :: f_136 :: f_137 :: f_138 :: f_139 :: f_140 :: f_141 :: f_142 :: f_143 :: f_144 :: f_145 :: f_146 :: f_147 :: f_148 :: f_149 :: f_150 :: f_151 :: f_152 :: f_153 :: f_154 :: f_155 :: f_156 :: f_157 :: f_158 :: f_159 :: f_160 :: f_161 :: f_162 :: f_163 :: f_164 :: f_165 :: f_166 :: f_167 :: f_168 :: f_169 :: f_170 :: f_171 :: f_172 :: f_173 :: f_174 :: f_175 :: f_176 :: f_177 :: f_178 :: f_179 :: f_180 :: f_181 :: f_182 :: f_183 :: f_184 :: f_185 :: f_186 :: f_187 :: f_188 :: f_189 :: f_190 :: f_191 :: f_192 :: f_193 :: f_194 :: f_195 :: f_196 :: f_197 :: f_198 :: f_199 :: f_200 :: f_201 :: f_202 :: f_203 :: f_204 :: f_205 :: f_206 :: f_207 :: f_208 :: f_209 :: f_210 :: f_211 :: f_212 :: f_213 :: f_214 :: f_215 :: f_216 :: f_217 :: f_218 :: f_219 :: f_220 :: f_221 :: f_222 :: f_223 :: f_224 :: f_225 :: f_226 :: f_227 :: f_228 :: f_229 :: f_230 :: f_231 :: f_232 :: f_233 :: f_234 :: f_235 :: f_236 :: f_237 :: f_238 :: f_239 :: f_240 :: f_241 :: f_242 :: f_243 :: f_244 :: f_245 :: f_246 :: f_247 :: f_248 :: f_249 :: f_250 :: f_251 :: f_252 :: f_253 :: f_254 :: f_255 :: f_256 :: f_257 :: f_258 :: f_259 :: f_260 :: f_261 :: f_262 :: f_263 :: f_264 :: f_265 :: f_266 :: f_267 :: f_268 :: f_269 :: f_270 :: f_271 :: f_272 :: f_273 :: f_274 :: f_275 :: f_276 :: f_277 :: f_278 :: f_279 :: f_280 :: f_281 :: f_282 :: f_283 :: f_284 :: f_285 :: f_286 :: f_287 :: f_288 :: f_289 :: f_290 :: f_291 :: f_292 :: f_293 :: f_294 :: f_295 :: f_296 :: f_297 :: f_298 :: f_299 :: f_300 :: f_301 :: f_302 :: f_303 :: f_304 :: f_305 :: f_306 :: f_307 :: f_308 :: f_309 :: f_310 :: f_311 :: f_312 :: f_313 :: f_314 :: f_315 :: f_316 :: f_317 :: f_318 :: f_319 :: f_320 :: f_321 :: f_322 :: f_323 :: f_324 :: f_325 :: f_326 :: f_327 :: f_328 :: f_329 :: f_330 :: f_331 :: f_332 :: f_333 :: f_334 :: f_335 :: f_336 :: f_337 :: f_338 :: f_339 :: f_340 :: f_341 :: f_342 :: f_343 :: f_344 :: f_345 :: f_346 :: f_347 :: f_348 :: f_349 :: f_350 :: f_351 :: f_352 :: f_353 :: f_354 :: f_355 :: f_356 :: f_357 :: f_358 :: f_359 :: f_360 :: f_361 :: f_362 :: f_363 :: []), []⟩ wM := by
 unfold postTop at *
 conv at hK => enter [a, w', 1, 2]; whnf
 conv => arg 2; whnf
 have hjs3 := HJ3.out
 have hok := cps_ok HG.out hDl12 js hjs3 HJ.out
 have hSafe := Safe_any _ (cps D js) D wM (HRow.out wM (.refl _ _)) hok
 rw [cps_length, hjs3] at hSafe
 have hrN : ∃ r : Nat, (r : Int) = lost % 3 ∧ r < 3 := ⟨(lost % 3).toNat, by omega, by omega⟩
 obtain ⟨r, hr, hr3⟩ := hrN
 obtain ⟨ix, iy, e_, hxy, hy3, halv, he3, her, helw, hsafe⟩ := elect_plain (D := D) js hjs3 r hr3
 obtain ⟨SF, hSF⟩ : ∃ s, s = iAt (srtI (szC (cps D js))) 1 := ⟨_, rfl⟩
 rw [← hSF] at hsafe
 change Calls Tryz.prog 11 _ _ (fun e w' => e = .returned (.tuple #[.int .i64 (iAt (srtI (szC (cps D js))) 1), .int .i64 0]) ∧ _) at hSafe
 rw [← hSF] at hSafe
 have HSafe := hide hSafe
 have HOk := hide hok
 have HElw := hide helw
 have HAlv := hide halv
 have w1_ : IntKind.i64.wrap lost = lost := by rw [IntKind.wrap_i64]; omega
 have w2_ : lost % 3 = (r : Int) := hr.symm
 have w3_ : Int.tmod lost 3 = (r : Int) := by rw [Int.tmod_eq_emod_of_nonneg (by omega)]; exact hr.symm
 clear hSafe hok helw halv hSF hjs3 hr
 go_upto_region 33 with (go_at_call 11; (with_reducible refine HSafe.out.mono ?_); rintro e w5 ⟨rfl, k5⟩)
 go_wp2_with fail
 go_loopw [171, 32] (fun s171 s32 wx => ∃ (k : Nat) (a : Option Addr) (n c : Nat), k ≤ 3 ∧ s171 = .int .i64 k ∧ s32 = .slice a n c ∧ n ≤ 3 ∧ Hid (OwnIs wx wM.heap.size (.slice a n c) (alv r k)) ∧ Below wM.heap.size wM wx) (fun s171 _ _ => 3 - (intOf s171).toNat)
 case atStart => exact ⟨0, none, 0, 0, by omega, rfl, rfl, by omega, hide (OwnIs.nil _ _), k5⟩
 case round =>
 clear k5
 obtain ⟨k, aa, an, ac, hk3, rfl, rfl, han, HA, hB⟩ := hrel
 by_cases hlt : k < 3
 ·have hsuc := alv_succ r k
  have hln := alv_len r k
  have hown := HA.out
  unfold OwnIs at hown
  have hanl : an = (alv r k).length := by
   obtain ⟨a_, c_, e_2⟩ := ownsRow_val hown
   simp only [Value.slice.injEq] at e_2
   exact e_2.2.1
  rw [← hanl] at hown hln
  have HY := hide hown
  have HN := hide hanl
  have Hlow := hide (fun r_ (e : (Value.slice aa an ac).ownBlock = some r_) => (World.ownsRow.lt hown r_ e).1)
  have hzB := hB.size
  have I4 : (0 : Int) ≤ (k : Int) := by omega
  have I5 : (k : Int) < 3 := by omega
  clear hown hanl HA
  obtain ⟨i0, hi0, hz0, hz1, hz2⟩ := info_parts infoInt
  by_cases hkr : k = r
  ·have e1 : ((k : Int) == (r : Int)) = true := by rw [beq_iff_eq]; omega
   have e2 : decide ((k : Int) = (r : Int)) = true := decide_eq_true (by omega)
   have e3 : ((k : Int) != (r : Int)) = false := by rw [bne, e1]; rfl
   rw [if_pos hkr] at hsuc
   have HS := hide hsuc
   have HKr := hide hkr
   clear hsuc hkr
   go_wp2_with fail
   go_roundw
   case rel => exact ⟨k + 1, aa, an, ac, by omega, by go_num, rfl, by omega, hide (by rw [HS.out]; unfold OwnIs; rw [← HN.out]; exact HY.out), hB⟩
   case measure => simp [intOf]; omega
  ·have e1 : ((k : Int) == (r : Int)) = false := by rw [beq_eq_false_iff_ne]; omega
   have e2 : decide ((k : Int) = (r : Int)) = false := decide_eq_false (by omega)
   have e3 : ((k : Int) != (r : Int)) = true := by rw [bne, e1]; rfl
   rw [if_neg hkr] at hsuc
   have HS := hide hsuc
   have HKr := hide hkr
   clear hsuc hkr
   go_wp2_with (at_builtin; refine wpList_append_src _ rfl _ _ 55 rfl wM.heap.size 3 i0 (.int .i64 0) 1 8 Tryz.underlying55 hi0 hz0 hz1 hz2 rfl (by decide) _ an (encI (alv r k)) rfl (World.ownsRow.alloc HY.out _) _ 1 [.int .i64 ((k : Int) + 1)] rfl (isLitSrc wr _ [.int .i64 ((k : Int) + 1)] 3 rfl) (by simp [Value.oneCell']) (by unfold maxLen; omega) (by omega) (by simp; omega) ?_; intro v6 w6 hown6 hg6 _; obtain ⟨a6, c6, rfl⟩ := ownsRow_val hown6; have b6 : Below wM.heap.size wM w6 := Below.grown (hB.alloc hzB _) hg6 (by simp; omega) (fun r_ e => Hlow.out r_ e); have HO6 := hide hown6; clear hown6 hg6)
   go_roundw
   case rel => exact ⟨k + 1, a6, _, c6, by omega, by go_num, rfl, by omega, hide (by rw [HS.out]; unfold OwnIs; rw [encI_append, List.length_append, ← HN.out]; exact HO6.out), b6⟩
   case measure => simp [intOf]; omega
 obtain rfl : k = 3 := by omega
 have hrA := HA.out.row
 rw [HAlv.out] at hrA
 obtain ⟨aa_, ac_, hav, -⟩ := id hrA
 simp only [Value.slice.injEq, List.length_cons, List.length_nil] at hav
 obtain ⟨-, rfl, -⟩ := hav
 have HEl := hide (Elect_any _ (cps D js) D _ ix iy wr (HRow.out wr hB) HOk.out hrA hxy (by rw [cps_length, HJ3.out]; exact hy3) (by rw [cps_length, HJ3.out]; omega))
 rw [HElw.out] at HEl
 have hzr := hB.size
 clear hrA HA HAlv HElw HOk HSafe hxy hy3 hlt hk3 han
 go_upto_region 40 with (go_at_call 12; (with_reducible refine HEl.out.mono ?_); rintro e w6 ⟨rfl, k6⟩)
 have hb : Below wM.heap.size wM w6 := hB.trans (k6.mono hzr)
 obtain ⟨-, -, hX, -, -⟩ := HXm.out w6 hb
 have h3_ : e_ < (cps D js).length := by rw [cps_length, HJ3.out]; exact he3
 have hj3_ : e_ < js.length := by rw [HJ3.out]; exact he3
 obtain ⟨je, hje⟩ : ∃ j, j = js.getD e_ 0 := ⟨_, rfl⟩
 obtain ⟨O, hO⟩ : ∃ O, O = D.take je := ⟨_, rfl⟩
 rw [← hje, ← hO] at hsafe
 have HAt := hide (fun (V : World) (hV : Below wM.heap.size wM V) => (HRow.out V hV).at_ h3_)
 rw [cps_length, HJ3.out, cps_at D js hj3_, ← hje, ← hO] at HAt
 try dsimp only at HAt
 have d1 : decide ((e_ : Int) + 1 < 1) = false := decide_eq_false (by omega)
 have d2 : decide ((3 : Int) < (e_ : Int) + 1) = false := decide_eq_false (by omega)
 have d3 : decide ((e_ : Int) + 1 = (r : Int) + 1) = false := decide_eq_false (by omega)
 have d3' : ((e_ : Int) + 1 == (r : Int) + 1) = false := by rw [beq_eq_false_iff_ne]; omega
 have d4 : decide ((O.length : Int) < SF) = false := decide_eq_false (by omega)
 have w4_ : IntKind.i64.wrap ((r : Int) + 1) = (r : Int) + 1 := by rw [IntKind.wrap_i64]; omega
 have w5_ : IntKind.i64.wrap ((e_ : Int) + 1 - 1) = (e_ : Int) := by rw [IntKind.wrap_i64]; omega
 have w6_ : (e_ : Int) + 1 - 1 = (e_ : Int) := by omega
 have I1 : (0 : Int) ≤ (e_ : Int) := by omega
 have I2 : (e_ : Int) < 3 := by omega
 obtain ⟨b, off, cap', lv, hbv, hblt, x0, x1, hlog⟩ := HAt.out w6 hb
 cases hbv
 obtain ⟨qa, qc, rfl, -⟩ := hlog.len
 obtain ⟨nO, hnO⟩ : ∃ n, n = O.length := ⟨_, rfl⟩
 rw [← hnO] at d4 x1
 clear hje hO hj3_ h3_ hB k6 hlog HEl HAt hnO hsafe
 have chX_0 := hX.1 0 _ rfl; have chX_1 := hX.1 1 _ rfl; have chX_2 := hX.1 2 _ rfl; have chX_3 := hX.1 3 _ rfl; have chX_4 := hX.1 4 _ rfl; have chX_5 := hX.1 5 _ rfl; have fhX := hX.2.1; have zhX := hX.2.2
 go_upto_region 42 with fail
 clear chX_0 chX_1 chX_2 chX_3 chX_4 chX_5 fhX zhX hX
 clear x0 x1 d1 d2 d3 d3' d4 w4_ w5_ w6_
 refine TopS_D hlost hkey hwhich hLT hnow hnlf hnrt HG hDl12 HLen HGn HJ3 he3 HXm HRow HPr HLm HBm hb ?_
 intro a_ w_ h_
 go_step
 exact h_
end Go.Proofs.YthkoaecafmhlcaaGreat
