/- TopSurvives, walked in pieces: the part from tail 15 on. -/
import Derived.Test.YthkoaecafmhlcaaGreatTnE
namespace Go.Proofs.YthkoaecafmhlcaaGreat
open Go.RowKit
attribute [local go_sem ↓] run_max_mx run_min_mn
attribute [local simp] size_drewT
set_option maxRecDepth 1000000 in
set_option maxHeartbeats 16000000 in
theorem TopS_D {f_0 f_1 f_2 f_5 f_6 f_7 f_8 f_9 f_10 f_12 f_14 f_15 f_17 f_18 f_19 f_20 f_21 f_24 f_25 f_26 f_27 f_28 f_29 f_30 f_31 f_32 f_33 f_35 f_36 f_37 f_38 f_39 f_40 f_41 f_42 f_43 f_44 f_45 f_46 f_47 f_48 f_49 f_50 f_51 f_52 f_53 f_54 f_55 f_56 f_57 f_58 f_59 f_60 f_61 f_62 f_63 f_64 f_65 f_66 f_67 f_68 f_69 f_70 f_71 f_72 f_73 f_74 f_75 f_76 f_77 f_78 f_79 f_80 f_81 f_82 f_83 f_84 f_85 f_86 f_87 f_88 f_89 f_90 f_91 f_92 f_93 f_94 f_95 f_96 f_97 f_98 f_99 f_100 f_101 f_102 f_103 f_104 f_105 f_106 f_107 f_108 f_109 f_110 f_111 f_112 f_113 f_114 f_115 f_116 f_117 f_118 f_119 f_120 f_121 f_122 f_123 f_124 f_125 f_126 f_127 f_128 f_129 f_130 f_131 f_132 f_133 f_134 f_135 f_136 f_137 f_138 f_139 f_140 f_141 f_142 f_143 f_144 f_145 f_146 f_147 f_148 f_149 f_150 f_151 f_152 f_153 f_154 f_155 f_156 f_157 f_158 f_159 f_160 f_161 f_162 f_163 f_164 f_165 f_166 f_167 f_168 f_169 f_170 f_171 f_172 f_173 f_174 f_175 f_176 f_177 f_178 f_179 f_180 f_181 f_182 f_183 f_184 f_185 f_186 f_187 f_188 f_189 f_190 f_191 f_192 f_193 f_194 f_195 f_196 f_197 f_198 f_199 f_200 f_201 f_202 f_203 f_204 f_205 f_206 f_207 f_208 f_209 f_210 f_211 f_212 f_213 f_214 f_215 f_216 f_217 f_218 f_219 f_220 f_221 f_222 f_223 f_224 f_225 f_226 f_227 f_228 f_229 f_230 f_231 f_232 f_233 f_234 f_235 f_236 f_237 f_238 f_239 f_240 f_241 f_242 f_243 f_244 f_245 f_246 f_247 f_248 f_249 f_250 f_251 f_252 f_253 f_254 f_255 f_256 f_257 f_258 f_259 f_260 f_261 f_262 f_263 f_264 f_265 f_266 f_267 f_268 f_269 f_270 f_271 f_272 f_273 f_274 f_275 f_276 f_277 f_278 f_279 f_280 f_281 f_282 f_283 f_284 f_285 f_286 f_287 f_288 f_289 f_290 f_291 f_292 f_293 f_294 f_295 f_296 f_297 f_298 f_299 f_300 f_301 f_302 f_303 f_304 f_305 f_306 f_307 f_308 f_309 f_310 f_311 f_312 f_313 f_314 f_315 f_316 f_317 f_318 f_319 f_320 f_321 f_322 f_323 f_324 f_325 f_326 f_327 f_328 f_329 f_330 f_331 f_332 f_333 f_334 f_335 f_336 f_337 f_338 f_339 f_340 f_341 f_342 f_343 f_344 f_345 f_346 f_347 f_348 f_349 f_350 f_351 f_352 f_353 f_354 f_355 f_356 f_357 f_358 f_359 f_360 f_361 f_362 f_363 : Value} {ni nt now LT naf nlf nrt key which lost c0 c1 c2 : Int} {nlk : Bool} {nra nwa sa oa da : Option Addr} {nrc nwc sn sc on oc dc m base BC : Nat} {nrl : List (Int × Int)} {nwl : List Wr} {D : List Tx} {w wM w6 : World} {B2 gn gc cc e_ : Nat} {ga ca : Option Addr} {js : List Nat} (_hlost : 0 ≤ lost ∧ lost ≤ 255) (hkey : 1 ≤ key ∧ key ≤ 1000) (hwhich : 0 ≤ which ∧ which ≤ 255) (hLT : LT ≤ 60000000000) (hnow : 0 ≤ now ∧ now ≤ 60000000000) (hnlf : 0 ≤ nlf ∧ nlf ≤ 65535) (hnrt : 0 ≤ nrt ∧ nrt ≤ 65535) (HG : Hid (GoodD D)) (hDl12 : D.length ≤ 12) (HLen : Hid (on = (ldOf D m).opn.length ∧ sn = (ldOf D m).st.length ∧ LT = topTs D)) (HGn : Hid (gn = (logB D).length)) (HJ3 : Hid (js.length = 3)) (he3 : e_ < 3) (HXm : Hid (∀ V : World, Below wM.heap.size wM V → BxC V w.heap.size [.int .u16 c0, .int .u16 c1, .int .u16 c2] ∧ BxC V (w.heap.size + 1) [.int .i64 ni, .int .i64 nt, .slice nra nrl.length nrc, .slice nwa nwl.length nwc, .int .u32 naf, .int .u16 nlf, .int .u16 nrt, .bool nlk] ∧ BxC V BC [.int .i64 LT, .slice sa sn sc, .slice oa on oc, .slice da D.length dc, .int .i64 now, .bool true] ∧ RunS V base D m (.slice sa sn sc) (.slice oa on oc) (.slice da D.length dc) ∧ TvRd V (.slice nra nrl.length nrc) (.slice nwa nwl.length nwc) ⟨ni, nt, nrl, nwl⟩)) (HRow : Hid (∀ V : World, Below wM.heap.size wM V → CpR V (.slice ca 3 cc) (cps D js))) (HPr : Hid (∀ V : World, Below wM.heap.size wM V → BxC V B2 (prt (fun j => .slice ga (logB (D.take j)).length gc) js))) (HLm : Hid (∀ V : World, Below wM.heap.size wM V → BRow V (.slice ga gn gc) (logB D))) (HBm : Hid (Below w.heap.size w wM)) (hb : Below wM.heap.size wM w6) {K : Act → World → Prop} (hK : ∀ a w', (seqTail 16 bodyTop).wp Tryz.prog (postTop w) a w' → K a w') : (seqHead (seqTail 15 bodyTop)).wp Tryz.prog (Exit.then K (postTop w)) ⟨List.toArray (f_0 :: f_1 :: f_2 :: .int .i64 key :: .int .u8 which :: f_5 :: f_6 :: f_7 :: f_8 :: f_9 :: f_10 :: .pointer (some ⟨w.heap.size + 1, 0, none⟩) :: f_12 :: .bool true :: f_14 :: f_15 :: .pointer (some ⟨BC, 0, none⟩) :: f_17 :: f_18 :: f_19 :: f_20 :: f_21 :: .slice ca 3 cc :: .pointer (some ⟨B2, 0, none⟩) :: f_24 :: f_25 :: f_26 :: f_27 :: f_28 :: f_29 :: f_30 :: f_31 :: f_32 :: f_33 :: .int .i64 ((e_ : Int) + 1) :: f_35 :: f_36 :: f_37 :: f_38 :: f_39 :: f_40 :: f_41 :: f_42 :: f_43 :: f_44 :: f_45 :: f_46 :: f_47 :: f_48 :: f_49 :: f_50 :: f_51 :: f_52 :: f_53 :: f_54 :: f_55 :: f_56 :: f_57 :: f_58 :: f_59 :: f_60 :: f_61 :: f_62 :: f_63 :: f_64 :: f_65 :: f_66 :: f_67 :: f_68 :: f_69 :: f_70 :: f_71 :: f_72 :: f_73 :: f_74 :: f_75 :: f_76 :: f_77 :: f_78 :: f_79 :: f_80 :: f_81 :: f_82 :: f_83 :: f_84 :: f_85 :: f_86 :: f_87 :: f_88 :: f_89 :: f_90 :: f_91 :: f_92 :: f_93 :: f_94 :: f_95 :: f_96 :: f_97 :: f_98 :: f_99 :: f_100 :: f_101 :: f_102 :: f_103 :: f_104 :: f_105 :: f_106 :: f_107 :: f_108 :: f_109 :: f_110 :: f_111 :: f_112 :: f_113 :: f_114 :: f_115 :: f_116 :: f_117 :: f_118 :: f_119 :: f_120 :: f_121 :: f_122 :: f_123 :: f_124 :: f_125 :: f_126 :: f_127 :: f_128 :: f_129 :: f_130 :: f_131 :: f_132 :: f_133 :: f_134 :: f_135 :: f_136 :: f_137 :: f_138 :: f_139 :: f_140 :: f_141 :: f_142 :: f_143 :: f_144 :: f_145 :: f_146 :: f_147 :: f_148 :: f_149 :: f_150 :: f_151 :: f_152 :: f_153 :: f_154 :: f_155 :: f_156 :: f_157 :: f_158 :: f_159 :: f_160 :: f_161 :: f_162 :: f_163 :: f_164 :: f_165 :: f_166 :: f_167 :: f_168 :: f_169 :: f_170 :: f_171 :: f_172 :: f_173 :: f_174 :: f_175 :: f_176 :: f_177 :: f_178 :: f_179 :: f_180 :: f_181 :: f_182 :: f_183 :: f_184 :: f_185 :: f_186 :: f_187 :: f_188 :: f_189 :: f_190 :: f_191 :: f_192 :: f_193 :: f_194 :: f_195 :: f_196 :: f_197 :: f_198 :: f_199 :: f_200 :: f_201 :: f_202 :: f_203 :: f_204 :: f_205 :: f_206 :: f_207 :: f_208 :: f_209 :: f_210 :: f_211 :: f_212 :: f_213 :: f_214 :: f_215 :: f_216 :: f_217 :: f_218 :: f_219 :: f_220 :: f_221 :: f_222 :: f_223 :: f_224 :: f_225 :: f_226 :: f_227 :: f_228 :: f_229 :: f_230 :: f_231 :: f_232 :: f_233 :: f_234 :: f_235 :: f_236 :: f_237 :: f_238 :: f_239 :: f_240 :: f_241 :: f_242 :: f_243 :: f_244 :: f_245 :: f_246 :: f_247 :: f_248 :: f_249 :: f_250 :: f_251 :: f_252 :: f_253 :: f_254 :: f_255 :: f_256 :: f_257 :: f_258 :: f_259 :: f_260 :: f_261 :: f_262 :: f_263 :: f_264 :: f_265 :: f_266 :: f_267 :: f_268 :: f_269 :: f_270 :: f_271 :: f_272 :: f_273 :: f_274 :: f_275 :: f_276 :: f_277 :: f_278 :: f_279 :: f_280 :: f_281 :: f_282 :: f_283 :: f_284 :: f_285 :: f_286 :: f_287 :: f_288 :: f_289 :: f_290 :: f_291 :: f_292 :: f_293 :: f_294 :: f_295 :: f_296 :: f_297 :: f_298 :: f_299 :: f_300 :: f_301 :: f_302 :: f_303 :: f_304 :: f_305 :: f_306 :: f_307 :: f_308 :: f_309 :: f_310 :: f_311 :: f_312 :: f_313 :: f_314 :: f_315 :: f_316 :: f_317 :: f_318 :: f_319 :: f_320 :: f_321 :: f_322 :: f_323 :: f_324 :: f_325 :: f_326 :: f_327 :: f_328 :: f_329 :: f_330 :: f_331 :: f_332 :: f_333 :: f_334 :: f_335 :: f_336 :: f_337 :: f_338 :: f_339 :: f_340 :: f_341 :: f_342 :: f_343 :: f_344 :: f_345 :: f_346 :: f_347 :: f_348 :: f_349 :: f_350 :: f_351 :: f_352 :: f_353 :: f_354 :: f_355 :: f_356 :: f_357 :: f_358 :: f_359 :: f_360 :: f_361 :: f_362 :: f_363 :: []), []⟩ w6 := by
 unfold postTop at *
 conv at hK => enter [a, w', 1, 2]; whnf
 conv => arg 2; whnf
 obtain ⟨-, hN, hX, hR6, hnr6⟩ := HXm.out w6 hb
 have hop := hR6.op.val
 have h3_ : e_ < (cps D js).length := by rw [cps_length, HJ3.out]; exact he3
 have hj3_ : e_ < js.length := by rw [HJ3.out]; exact he3
 obtain ⟨je, hje⟩ : ∃ j, j = js.getD e_ 0 := ⟨_, rfl⟩
 obtain ⟨O, hO⟩ : ∃ O, O = D.take je := ⟨_, rfl⟩
 have HAt := hide (fun (V : World) (hV : Below wM.heap.size wM V) => (HRow.out V hV).at_ h3_)
 rw [cps_length, HJ3.out, cps_at D js hj3_, ← hje, ← hO] at HAt
 try dsimp only at HAt
 obtain ⟨sz, hsz⟩ : ∃ s, s = (logB O).length := ⟨_, rfl⟩
 have hpt := prt_at (fun j => .slice ga (logB (D.take j)).length gc) js hj3_ he3
 try dsimp only at hpt
 rw [← hje, ← hO, ← hsz] at hpt
 have HPe := hide (fun (V : World) (hV : Below wM.heap.size wM V) => (HPr.out V hV).1 e_ _ hpt)
 have hGO : GoodD O := by rw [hO]; exact HG.out.sub (List.take_sublist _ _)
 have hOl : O.length ≤ 12 := by rw [hO, List.length_take]; omega
 have hszg : sz ≤ gn := by rw [hsz, hO, HGn.out]; exact logB_take_le D je
 have hrw : Rws encB 1 0 w6 (.slice ga sz gc) (logB O) := by
  have h_ := (HLm.out w6 hb).take sz (by rw [← HGn.out]; exact hszg)
  rw [hsz, hO, logB_take] at h_
  rw [hsz, hO]
  exact h_
 obtain ⟨LO, hLO⟩ : ∃ x, x = topTs O := ⟨_, rfl⟩
 obtain ⟨S1, hS1⟩ : ∃ S, S = stV (evs O) := ⟨_, rfl⟩
 obtain ⟨S2, hS2⟩ : ∃ S, S = stV (evs D) := ⟨_, rfl⟩
 obtain ⟨s1, hs1⟩ : ∃ s, s = S1.length := ⟨_, rfl⟩
 obtain ⟨s2, hs2⟩ : ∃ s, s = S2.length := ⟨_, rfl⟩
 have hRec := Recover_any _ O w6 hrw hGO (by omega)
 rw [← hsz, ← hLO, ← hS1] at hRec
 dsimp only [valL] at hRec
 have HRec := hide hRec
 have HSO1 : Hid (StOk S1) := by rw [hS1]; exact hide (st_ok hGO (by omega))
 have HSO2 : Hid (StOk S2) := by rw [hS2]; exact hide (st_ok HG.out (by omega))
 have HVL : Hid (VL ⟨LO, S1, []⟩ ∧ S1.length ≤ 800) := by rw [hLO, hS1]; exact hide (ld_full hGO (by omega))
 have HTop : Hid (∀ t, t ∈ O → t.ts ≤ LO) := by rw [hLO]; exact hide (topTs_ge hGO)
 have HR3 : Hid (∀ i, i < O.length → lastV S2 key (txAt O i).ts = rlast (evs O) key (txAt O i).ts ∧ lastV S1 key (txAt O i).ts = rlast (evs O) key (txAt O i).ts) := by
  rw [hS1, hS2, hO]
  exact hide (fun i hi => read_three HG.out je hi key)
 have HGO := hide hGO
 have HS1 := hide hs1
 have HS2 := hide hs2
 have HE2 := hide hS2
 have hLs := HLen.out
 have hlo_ : topTs D < 3000000000000000 := by rw [← hLs.2.2]; omega
 have HSa := hide (fun n hd => @show_all D HG.out m n 3000000000000000 hlo_ hd)
 have HSh := hide (fun (V : World) (hV : Below wM.heap.size wM V) => Show_any (.slice sa sn sc) (.slice oa on oc) (ldOf D m) 3000000000000000 3000000000000000 V ((HXm.out V hV).2.2.2.1.ld) (ldOf_vl HG.out (by omega) m) (by rw [← hLs.1]; have h_ : (ldOf D m).opn.length = D.length - m := List.length_drop ..; omega) hop (by decide))
 unfold ShowPost at HSh
 dsimp only [valL] at HSh
 rw [show (ldOf D m).last = LT from hLs.2.2.symm] at HSh
 have w5_ : IntKind.i64.wrap ((e_ : Int) + 1 - 1) = (e_ : Int) := by rw [IntKind.wrap_i64]; omega
 have w6_ : (e_ : Int) + 1 - 1 = (e_ : Int) := by omega
 have I1 : (0 : Int) ≤ (e_ : Int) := by omega
 have I2 : (e_ : Int) < 3 := by omega
 have y0 := HPe.out w6 hb
 obtain ⟨nO, hnO⟩ : ∃ n, n = O.length := ⟨_, rfl⟩
 have HNO := hide hnO
 clear hRec hrw hlo_ hLs hGO hsz hszg hpt hje hO hLO hS1 hS2 hs1 hs2 hj3_ h3_ hR6 hop hnO
 have cN_0 := hN.1 0 _ rfl
 have cN_1 := hN.1 1 _ rfl
 have cN_2 := hN.1 2 _ rfl
 have cN_3 := hN.1 3 _ rfl
 have cN_4 := hN.1 4 _ rfl
 have cN_5 := hN.1 5 _ rfl
 have cN_6 := hN.1 6 _ rfl
 have cN_7 := hN.1 7 _ rfl
 have zN := hN.2.2
 have cX_0 := hX.1 0 _ rfl
 have cX_1 := hX.1 1 _ rfl
 have cX_2 := hX.1 2 _ rfl
 have cX_3 := hX.1 3 _ rfl
 have cX_4 := hX.1 4 _ rfl
 have cX_5 := hX.1 5 _ rfl
 have zX := hX.2.2
 go_upto_region 43 with (go_at_call 13; (with_reducible refine (HRec.out).mono ?_); rintro e w1 ⟨⟨sv, rfl, hsO⟩, k1⟩; obtain ⟨va1, vc1, hsv, -, -⟩ := hsO.val; rw [← HS1.out] at hsv; subst hsv; have hv1 := hsO.row encVr_length ver0 (by omega); clear hsO; clear cN_0 cN_1 cN_2 cN_3 cN_4 cN_5 cN_6 cN_7 zN cX_0 cX_1 cX_2 cX_3 cX_4 cX_5 zX; have t_ := hN.below hN.2.2 k1; clear hN; have hN := t_; clear t_; have t_ := hX.below hX.2.2 k1; clear hX; have hX := t_; clear t_; have t_ := hnr6.below (Nat.le_refl _) k1; clear hnr6; have hnr6 := t_; clear t_; have t_ := hb.trans (k1.mono hb.size); clear hb; have hb := t_; clear t_; clear k1; have cN_0 := hN.1 0 _ rfl; have cN_1 := hN.1 1 _ rfl; have cN_2 := hN.1 2 _ rfl; have cN_3 := hN.1 3 _ rfl; have cN_4 := hN.1 4 _ rfl; have cN_5 := hN.1 5 _ rfl; have cN_6 := hN.1 6 _ rfl; have cN_7 := hN.1 7 _ rfl; have zN := hN.2.2; have cX_0 := hX.1 0 _ rfl; have cX_1 := hX.1 1 _ rfl; have cX_2 := hX.1 2 _ rfl; have cX_3 := hX.1 3 _ rfl; have cX_4 := hX.1 4 _ rfl; have cX_5 := hX.1 5 _ rfl; have zX := hX.2.2)
 clear y0
 obtain ⟨W2, hW2⟩ : ∃ V : World, V = w1.alloc (.cells #[.int .i64 LO, .slice va1 s1 vc1, .slice none 0 0] 38) := ⟨_, rfl⟩
 rw [← hW2]
 clear cN_0 cN_1 cN_2 cN_3 cN_4 cN_5 cN_6 cN_7 zN cX_0 cX_1 cX_2 cX_3 cX_4 cX_5 zX
 have a2 : Below w1.heap.size w1 W2 := by rw [hW2]; ((with_reducible repeat' first | exact .refl _ _ | refine .alloc ?_ ?_ _ | refine .setCell ?_ ?_ _ | refine .drew ?_ | refine below_drewN ?_ _) <;> first | omega | simp <;> omega)
 have hLd : BxC W2 (w1.heap.size) [.int .i64 LO, .slice va1 s1 vc1, .slice none 0 0] := by
  rw [hW2]
  have h_ := BxC.made (w1) [.int .i64 LO, .slice va1 s1 vc1, .slice none 0 0] 38
  exact h_
 have t_ := hN.below hN.2.2 a2; clear hN; have hN := t_; clear t_
 have t_ := hX.below hX.2.2 a2; clear hX; have hX := t_; clear t_
 have t_ := hnr6.below (Nat.le_refl _) a2; clear hnr6; have hnr6 := t_; clear t_
 have t_ := hv1.below (Nat.le_refl _) a2; clear hv1; have hv1 := t_; clear t_
 have t_ := hb.trans (a2.mono hb.size); clear hb; have hb := t_; clear t_
 clear hW2 a2
 have cN_0 := hN.1 0 _ rfl
 have cN_1 := hN.1 1 _ rfl
 have cN_2 := hN.1 2 _ rfl
 have cN_3 := hN.1 3 _ rfl
 have cN_4 := hN.1 4 _ rfl
 have cN_5 := hN.1 5 _ rfl
 have cN_6 := hN.1 6 _ rfl
 have cN_7 := hN.1 7 _ rfl
 have zN := hN.2.2
 have cX_0 := hX.1 0 _ rfl
 have cX_1 := hX.1 1 _ rfl
 have cX_2 := hX.1 2 _ rfl
 have cX_3 := hX.1 3 _ rfl
 have cX_4 := hX.1 4 _ rfl
 have cX_5 := hX.1 5 _ rfl
 have zX := hX.2.2
 have cLd_0 := hLd.1 0 _ rfl
 have cLd_1 := hLd.1 1 _ rfl
 have cLd_2 := hLd.1 2 _ rfl
 have zLd := hLd.2.2
 go_upto_region 44 with (go_at_call 14; (with_reducible refine (HSh.out _ hb).mono ?_); rintro e w3 ⟨⟨n9, st9, op9, tv9, rfl, hn9, hb9, ha9, ho9, hp9⟩, k3⟩; have hs9 := HSa.out n9 ha9; rw [hs9, ← HE2.out] at ho9; obtain ⟨va2, vc2, hsv2, -, -⟩ := ho9.val; rw [← HS2.out] at hsv2; obtain ⟨oa9, oc9, hov9, -⟩ := hp9.ty.row.len; obtain ⟨on9, hon9⟩ : ∃ n, n = ((ldOf D m).opn.drop n9).length := ⟨_, rfl⟩; rw [← hon9] at hov9; subst hsv2 hov9; have hv2 := ho9.row encVr_length ver0 (by omega); clear ho9 hp9 ha9 hb9 hn9 hs9 hon9; clear cN_0 cN_1 cN_2 cN_3 cN_4 cN_5 cN_6 cN_7 zN cX_0 cX_1 cX_2 cX_3 cX_4 cX_5 zX cLd_0 cLd_1 cLd_2 zLd; have t_ := hN.below hN.2.2 k3; clear hN; have hN := t_; clear t_; have t_ := hX.below hX.2.2 k3; clear hX; have hX := t_; clear t_; have t_ := hLd.below hLd.2.2 k3; clear hLd; have hLd := t_; clear t_; have t_ := hnr6.below (Nat.le_refl _) k3; clear hnr6; have hnr6 := t_; clear t_; have t_ := hv1.below (Nat.le_refl _) k3; clear hv1; have hv1 := t_; clear t_; have t_ := hb.trans (k3.mono hb.size); clear hb; have hb := t_; clear t_; clear k3; have cN_0 := hN.1 0 _ rfl; have cN_1 := hN.1 1 _ rfl; have cN_2 := hN.1 2 _ rfl; have cN_3 := hN.1 3 _ rfl; have cN_4 := hN.1 4 _ rfl; have cN_5 := hN.1 5 _ rfl; have cN_6 := hN.1 6 _ rfl; have cN_7 := hN.1 7 _ rfl; have zN := hN.2.2; have cX_0 := hX.1 0 _ rfl; have cX_1 := hX.1 1 _ rfl; have cX_2 := hX.1 2 _ rfl; have cX_3 := hX.1 3 _ rfl; have cX_4 := hX.1 4 _ rfl; have cX_5 := hX.1 5 _ rfl; have zX := hX.2.2; have cLd_0 := hLd.1 0 _ rfl; have cLd_1 := hLd.1 1 _ rfl; have cLd_2 := hLd.1 2 _ rfl; have zLd := hLd.2.2)
 obtain ⟨W4, hW4⟩ : ∃ V : World, V = w3.alloc (.cells #[.int .i64 LT, .slice va2 s2 vc2, .slice oa9 on9 oc9] 38) := ⟨_, rfl⟩
 rw [← hW4]
 clear cN_0 cN_1 cN_2 cN_3 cN_4 cN_5 cN_6 cN_7 zN cX_0 cX_1 cX_2 cX_3 cX_4 cX_5 zX cLd_0 cLd_1 cLd_2 zLd
 have a4 : Below w3.heap.size w3 W4 := by rw [hW4]; ((with_reducible repeat' first | exact .refl _ _ | refine .alloc ?_ ?_ _ | refine .setCell ?_ ?_ _ | refine .drew ?_ | refine below_drewN ?_ _) <;> first | omega | simp <;> omega)
 have hWh : BxC W4 (w3.heap.size) [.int .i64 LT, .slice va2 s2 vc2, .slice oa9 on9 oc9] := by
  rw [hW4]
  have h_ := BxC.made (w3) [.int .i64 LT, .slice va2 s2 vc2, .slice oa9 on9 oc9] 38
  exact h_
 have t_ := hN.below hN.2.2 a4; clear hN; have hN := t_; clear t_
 have t_ := hX.below hX.2.2 a4; clear hX; have hX := t_; clear t_
 have t_ := hLd.below hLd.2.2 a4; clear hLd; have hLd := t_; clear t_
 have t_ := hnr6.below (Nat.le_refl _) a4; clear hnr6; have hnr6 := t_; clear t_
 have t_ := hv1.below (Nat.le_refl _) a4; clear hv1; have hv1 := t_; clear t_
 have t_ := hv2.below (Nat.le_refl _) a4; clear hv2; have hv2 := t_; clear t_
 have t_ := hb.trans (a4.mono hb.size); clear hb; have hb := t_; clear t_
 clear hW4 a4
 have cN_0 := hN.1 0 _ rfl
 have cN_1 := hN.1 1 _ rfl
 have cN_2 := hN.1 2 _ rfl
 have cN_3 := hN.1 3 _ rfl
 have cN_4 := hN.1 4 _ rfl
 have cN_5 := hN.1 5 _ rfl
 have cN_6 := hN.1 6 _ rfl
 have cN_7 := hN.1 7 _ rfl
 have zN := hN.2.2
 have cX_0 := hX.1 0 _ rfl
 have cX_1 := hX.1 1 _ rfl
 have cX_2 := hX.1 2 _ rfl
 have cX_3 := hX.1 3 _ rfl
 have cX_4 := hX.1 4 _ rfl
 have cX_5 := hX.1 5 _ rfl
 have zX := hX.2.2
 have cLd_0 := hLd.1 0 _ rfl
 have cLd_1 := hLd.1 1 _ rfl
 have cLd_2 := hLd.1 2 _ rfl
 have zLd := hLd.2.2
 have cWh_0 := hWh.1 0 _ rfl
 have cWh_1 := hWh.1 1 _ rfl
 have cWh_2 := hWh.1 2 _ rfl
 have zWh := hWh.2.2
 have y0 := HPe.out W4 hb
 go_upto_region 46 with fail
 clear y0
 obtain ⟨b_, off_, cap_, lv, hbv, hblt2, x0, x1, hlog⟩ := HAt.out W4 hb
 cases hbv
 obtain ⟨qa, qc, rfl, -⟩ := hlog.len
 rw [← HNO.out] at x1
 go_upto_region 47 with fail
 clear x0 x1
 obtain ⟨BL, hBL⟩ : ∃ b, b = w1.heap.size := ⟨_, rfl⟩
 rw [← hBL] at hLd ⊢
 clear cLd_0 cLd_1 cLd_2 zLd
 clear hBL
 go_upto_if 269 with fail
 go_cut [] from 267 to 329 (fun wx => Hid ((BxC wx (w.heap.size + 1) [.int .i64 ni, .int .i64 nt, .slice nra nrl.length nrc, .slice nwa nwl.length nwc, .int .u32 naf, .int .u16 nlf, .int .u16 nrt, .bool nlk] ∧ BxC wx BC [.int .i64 LT, .slice sa sn sc, .slice oa on oc, .slice da D.length dc, .int .i64 now, .bool true] ∧ BxC wx BL [.int .i64 LO, .slice va1 s1 vc1, .slice none 0 0]) ∧ TvRd wx (.slice nra nrl.length nrc) (.slice nwa nwl.length nwc) ⟨ni, nt, nrl, nwl⟩ ∧ Rws encVr 4 ver0 wx (.slice va1 s1 vc1) S1 ∧ TxR wx (.slice qa O.length qc) O ∧ Below wM.heap.size wM wx))
 case first =>
  by_cases h0 : nO = 0
  ·have d5 : decide ((0 : Int) < (nO : Int)) = false := decide_eq_false (by omega)
   go_wp2_with fail
   go_meet
   exact hide ⟨⟨hN, hX, hLd⟩, hnr6, hv1, hlog, hb⟩
  have d5 : decide ((0 : Int) < (nO : Int)) = true := decide_eq_true (by omega)
  obtain ⟨ii, hii, hil⟩ : ∃ i : Nat, (i : Int) = which % (nO : Int) ∧ i < nO := ⟨(which % (nO : Int)).toNat, by have := Int.emod_nonneg which (show (nO : Int) ≠ 0 by omega); omega, by have := Int.emod_lt_of_pos which (show (0 : Int) < (nO : Int) by omega); have := Int.emod_nonneg which (show (nO : Int) ≠ 0 by omega); omega⟩
  have w1_ : IntKind.i64.wrap which = which := by rw [IntKind.wrap_i64]; omega
  have w2_ : which % (nO : Int) = (ii : Int) := hii.symm
  have w3_ : Int.tmod which (nO : Int) = (ii : Int) := by rw [Int.tmod_eq_emod_of_nonneg (by omega)]; exact hii.symm
  have d6 : decide ((nO : Int) = 0) = false := decide_eq_false (by omega)
  have d6' : ((nO : Int) == 0) = false := by rw [beq_eq_false_iff_ne]; omega
  have d7 : ¬ (nO : Int) = 0 := by omega
  have hil2 : ii < O.length := by rw [← HNO.out]; exact hil
  obtain ⟨b5, off5, cap5, rv5, wv5, hbv5, hlt5, x0, x1, x2, x3, hrd⟩ := TxR.at_ hlog (i := ii) hil2
  cases hbv5
  have hr3 := HR3.out ii hil2
  have htb := HGO.out.2 _ (txAt_mem hil2)
  obtain ⟨ts, hts⟩ : ∃ t, t = (txAt O ii).ts := ⟨_, rfl⟩
  rw [← hts] at hr3 x1
  have htsb : 1 ≤ ts ∧ ts ≤ 3000000000000000 := by rw [hts]; exact ⟨htb.2, htb.1.2.2.2.1.2⟩
  have h8 : ∀ t, t ∈ O → t.wr.length ≤ 8 := fun t ht => (HGO.out.2 t ht).1.2.2.2.2.2
  obtain ⟨⟨ak, at_, ax, ag⟩, hA⟩ : ∃ A, A = atV (rlast (evs O) key ts) := ⟨_, rfl⟩
  obtain ⟨AB, hAB⟩ : ∃ A, A = atB (rlast (evs O) key ts) := ⟨_, rfl⟩
  have HA1 := hide (fun (V : World) (h_ : Rws encVr 4 ver0 V (.slice va1 s1 vc1) S1) => At_any _ S1 key ts V h_ HSO1.out hkey htsb)
  have HA2 := hide (fun (V : World) (h_ : Rws encVr 4 ver0 V (.slice va2 s2 vc2) S2) => At_any _ S2 key ts V h_ HSO2.out hkey htsb)
  have HA3 := hide (fun (V : World) (h_ : TxR V (.slice (some ⟨b5, off5, none⟩) O.length qc) O) => Last_any _ O key ts V h_ h8 (by omega))
  rw [hr3.2, ← hA, ← hAB] at HA1
  rw [hr3.1, ← hA, ← hAB] at HA2
  rw [← hA, ← hAB] at HA3
  rw [← HNO.out] at HA3
  dsimp only [valV] at HA1 HA2 HA3
  have I1 : (0 : Int) ≤ (ii : Int) := by omega
  have I2 : (ii : Int) < (nO : Int) := by omega
  clear hr3 htb hts htsb h8 hA hAB hrd hii hil2 x0 x2 x3
  have cLd_0 := hLd.1 0 _ rfl
  have cLd_1 := hLd.1 1 _ rfl
  have cLd_2 := hLd.1 2 _ rfl
  have zLd := hLd.2.2
  go_upto_region 49 with fail
  clear x1
  go_upto_region 50 with (go_at_call 15; (with_reducible refine (HA1.out _ hv1).mono ?_); rintro e w5 ⟨rfl, k5⟩; clear cN_0 cN_1 cN_2 cN_3 cN_4 cN_5 cN_6 cN_7 zN cX_0 cX_1 cX_2 cX_3 cX_4 cX_5 zX cWh_0 cWh_1 cWh_2 zWh cLd_0 cLd_1 cLd_2 zLd; have t_ := hN.below hN.2.2 k5; clear hN; have hN := t_; clear t_; have t_ := hX.below hX.2.2 k5; clear hX; have hX := t_; clear t_; have t_ := hLd.below hLd.2.2 k5; clear hLd; have hLd := t_; clear t_; have t_ := hWh.below hWh.2.2 k5; clear hWh; have hWh := t_; clear t_; have t_ := hnr6.below (Nat.le_refl _) k5; clear hnr6; have hnr6 := t_; clear t_; have t_ := hv1.below (Nat.le_refl _) k5; clear hv1; have hv1 := t_; clear t_; have t_ := hv2.below (Nat.le_refl _) k5; clear hv2; have hv2 := t_; clear t_; have t_ := hlog.below (Nat.le_refl _) k5; clear hlog; have hlog := t_; clear t_; have t_ := hb.trans (k5.mono hb.size); clear hb; have hb := t_; clear t_; clear k5; have cN_0 := hN.1 0 _ rfl; have cN_1 := hN.1 1 _ rfl; have cN_2 := hN.1 2 _ rfl; have cN_3 := hN.1 3 _ rfl; have cN_4 := hN.1 4 _ rfl; have cN_5 := hN.1 5 _ rfl; have cN_6 := hN.1 6 _ rfl; have cN_7 := hN.1 7 _ rfl; have zN := hN.2.2; have cX_0 := hX.1 0 _ rfl; have cX_1 := hX.1 1 _ rfl; have cX_2 := hX.1 2 _ rfl; have cX_3 := hX.1 3 _ rfl; have cX_4 := hX.1 4 _ rfl; have cX_5 := hX.1 5 _ rfl; have zX := hX.2.2; have cLd_0 := hLd.1 0 _ rfl; have cLd_1 := hLd.1 1 _ rfl; have cLd_2 := hLd.1 2 _ rfl; have zLd := hLd.2.2; have cWh_0 := hWh.1 0 _ rfl; have cWh_1 := hWh.1 1 _ rfl; have cWh_2 := hWh.1 2 _ rfl; have zWh := hWh.2.2)
  obtain ⟨W6, hW6⟩ : ∃ V : World, V = w5.alloc (.cells #[.int .i64 ak, .int .i64 at_, .int .i64 ax, .bool ag] 64) := ⟨_, rfl⟩
  rw [← hW6]
  clear cN_0 cN_1 cN_2 cN_3 cN_4 cN_5 cN_6 cN_7 zN cX_0 cX_1 cX_2 cX_3 cX_4 cX_5 zX cLd_0 cLd_1 cLd_2 zLd cWh_0 cWh_1 cWh_2 zWh
  have a6 : Below w5.heap.size w5 W6 := by rw [hW6]; ((with_reducible repeat' first | exact .refl _ _ | refine .alloc ?_ ?_ _ | refine .setCell ?_ ?_ _ | refine .drew ?_ | refine below_drewN ?_ _) <;> first | omega | simp <;> omega)
  have hV1 : BxC W6 (w5.heap.size) [.int .i64 ak, .int .i64 at_, .int .i64 ax, .bool ag] := by
   rw [hW6]
   have h_ := BxC.made (w5) [.int .i64 ak, .int .i64 at_, .int .i64 ax, .bool ag] 64
   exact h_
  have t_ := hN.below hN.2.2 a6; clear hN; have hN := t_; clear t_
  have t_ := hX.below hX.2.2 a6; clear hX; have hX := t_; clear t_
  have t_ := hLd.below hLd.2.2 a6; clear hLd; have hLd := t_; clear t_
  have t_ := hWh.below hWh.2.2 a6; clear hWh; have hWh := t_; clear t_
  have t_ := hnr6.below (Nat.le_refl _) a6; clear hnr6; have hnr6 := t_; clear t_
  have t_ := hv1.below (Nat.le_refl _) a6; clear hv1; have hv1 := t_; clear t_
  have t_ := hv2.below (Nat.le_refl _) a6; clear hv2; have hv2 := t_; clear t_
  have t_ := hlog.below (Nat.le_refl _) a6; clear hlog; have hlog := t_; clear t_
  have t_ := hb.trans (a6.mono hb.size); clear hb; have hb := t_; clear t_
  clear hW6 a6
  have cN_0 := hN.1 0 _ rfl
  have cN_1 := hN.1 1 _ rfl
  have cN_2 := hN.1 2 _ rfl
  have cN_3 := hN.1 3 _ rfl
  have cN_4 := hN.1 4 _ rfl
  have cN_5 := hN.1 5 _ rfl
  have cN_6 := hN.1 6 _ rfl
  have cN_7 := hN.1 7 _ rfl
  have zN := hN.2.2
  have cX_0 := hX.1 0 _ rfl
  have cX_1 := hX.1 1 _ rfl
  have cX_2 := hX.1 2 _ rfl
  have cX_3 := hX.1 3 _ rfl
  have cX_4 := hX.1 4 _ rfl
  have cX_5 := hX.1 5 _ rfl
  have zX := hX.2.2
  have cLd_0 := hLd.1 0 _ rfl
  have cLd_1 := hLd.1 1 _ rfl
  have cLd_2 := hLd.1 2 _ rfl
  have zLd := hLd.2.2
  have cWh_0 := hWh.1 0 _ rfl
  have cWh_1 := hWh.1 1 _ rfl
  have cWh_2 := hWh.1 2 _ rfl
  have zWh := hWh.2.2
  have cV1_0 := hV1.1 0 _ rfl
  have cV1_1 := hV1.1 1 _ rfl
  have cV1_2 := hV1.1 2 _ rfl
  have cV1_3 := hV1.1 3 _ rfl
  have zV1 := hV1.2.2
  go_upto_region 51 with (go_at_call 15; (with_reducible refine (HA2.out _ hv2).mono ?_); rintro e w7 ⟨rfl, k7⟩; clear cN_0 cN_1 cN_2 cN_3 cN_4 cN_5 cN_6 cN_7 zN cX_0 cX_1 cX_2 cX_3 cX_4 cX_5 zX cLd_0 cLd_1 cLd_2 zLd cWh_0 cWh_1 cWh_2 zWh cV1_0 cV1_1 cV1_2 cV1_3 zV1; have t_ := hN.below hN.2.2 k7; clear hN; have hN := t_; clear t_; have t_ := hX.below hX.2.2 k7; clear hX; have hX := t_; clear t_; have t_ := hLd.below hLd.2.2 k7; clear hLd; have hLd := t_; clear t_; have t_ := hWh.below hWh.2.2 k7; clear hWh; have hWh := t_; clear t_; have t_ := hV1.below hV1.2.2 k7; clear hV1; have hV1 := t_; clear t_; have t_ := hnr6.below (Nat.le_refl _) k7; clear hnr6; have hnr6 := t_; clear t_; have t_ := hv1.below (Nat.le_refl _) k7; clear hv1; have hv1 := t_; clear t_; have t_ := hv2.below (Nat.le_refl _) k7; clear hv2; have hv2 := t_; clear t_; have t_ := hlog.below (Nat.le_refl _) k7; clear hlog; have hlog := t_; clear t_; have t_ := hb.trans (k7.mono hb.size); clear hb; have hb := t_; clear t_; clear k7; have cN_0 := hN.1 0 _ rfl; have cN_1 := hN.1 1 _ rfl; have cN_2 := hN.1 2 _ rfl; have cN_3 := hN.1 3 _ rfl; have cN_4 := hN.1 4 _ rfl; have cN_5 := hN.1 5 _ rfl; have cN_6 := hN.1 6 _ rfl; have cN_7 := hN.1 7 _ rfl; have zN := hN.2.2; have cX_0 := hX.1 0 _ rfl; have cX_1 := hX.1 1 _ rfl; have cX_2 := hX.1 2 _ rfl; have cX_3 := hX.1 3 _ rfl; have cX_4 := hX.1 4 _ rfl; have cX_5 := hX.1 5 _ rfl; have zX := hX.2.2; have cLd_0 := hLd.1 0 _ rfl; have cLd_1 := hLd.1 1 _ rfl; have cLd_2 := hLd.1 2 _ rfl; have zLd := hLd.2.2; have cWh_0 := hWh.1 0 _ rfl; have cWh_1 := hWh.1 1 _ rfl; have cWh_2 := hWh.1 2 _ rfl; have zWh := hWh.2.2; have cV1_0 := hV1.1 0 _ rfl; have cV1_1 := hV1.1 1 _ rfl; have cV1_2 := hV1.1 2 _ rfl; have cV1_3 := hV1.1 3 _ rfl; have zV1 := hV1.2.2)
  obtain ⟨W8, hW8⟩ : ∃ V : World, V = w7.alloc (.cells #[.int .i64 ak, .int .i64 at_, .int .i64 ax, .bool ag] 64) := ⟨_, rfl⟩
  rw [← hW8]
  clear cN_0 cN_1 cN_2 cN_3 cN_4 cN_5 cN_6 cN_7 zN cX_0 cX_1 cX_2 cX_3 cX_4 cX_5 zX cLd_0 cLd_1 cLd_2 zLd cWh_0 cWh_1 cWh_2 zWh cV1_0 cV1_1 cV1_2 cV1_3 zV1
  have a8 : Below w7.heap.size w7 W8 := by rw [hW8]; ((with_reducible repeat' first | exact .refl _ _ | refine .alloc ?_ ?_ _ | refine .setCell ?_ ?_ _ | refine .drew ?_ | refine below_drewN ?_ _) <;> first | omega | simp <;> omega)
  have hV2 : BxC W8 (w7.heap.size) [.int .i64 ak, .int .i64 at_, .int .i64 ax, .bool ag] := by
   rw [hW8]
   have h_ := BxC.made (w7) [.int .i64 ak, .int .i64 at_, .int .i64 ax, .bool ag] 64
   exact h_
  have t_ := hN.below hN.2.2 a8; clear hN; have hN := t_; clear t_
  have t_ := hX.below hX.2.2 a8; clear hX; have hX := t_; clear t_
  have t_ := hLd.below hLd.2.2 a8; clear hLd; have hLd := t_; clear t_
  have t_ := hWh.below hWh.2.2 a8; clear hWh; have hWh := t_; clear t_
  have t_ := hV1.below hV1.2.2 a8; clear hV1; have hV1 := t_; clear t_
  have t_ := hnr6.below (Nat.le_refl _) a8; clear hnr6; have hnr6 := t_; clear t_
  have t_ := hv1.below (Nat.le_refl _) a8; clear hv1; have hv1 := t_; clear t_
  have t_ := hv2.below (Nat.le_refl _) a8; clear hv2; have hv2 := t_; clear t_
  have t_ := hlog.below (Nat.le_refl _) a8; clear hlog; have hlog := t_; clear t_
  have t_ := hb.trans (a8.mono hb.size); clear hb; have hb := t_; clear t_
  clear hW8 a8
  have cN_0 := hN.1 0 _ rfl
  have cN_1 := hN.1 1 _ rfl
  have cN_2 := hN.1 2 _ rfl
  have cN_3 := hN.1 3 _ rfl
  have cN_4 := hN.1 4 _ rfl
  have cN_5 := hN.1 5 _ rfl
  have cN_6 := hN.1 6 _ rfl
  have cN_7 := hN.1 7 _ rfl
  have zN := hN.2.2
  have cX_0 := hX.1 0 _ rfl
  have cX_1 := hX.1 1 _ rfl
  have cX_2 := hX.1 2 _ rfl
  have cX_3 := hX.1 3 _ rfl
  have cX_4 := hX.1 4 _ rfl
  have cX_5 := hX.1 5 _ rfl
  have zX := hX.2.2
  have cLd_0 := hLd.1 0 _ rfl
  have cLd_1 := hLd.1 1 _ rfl
  have cLd_2 := hLd.1 2 _ rfl
  have zLd := hLd.2.2
  have cWh_0 := hWh.1 0 _ rfl
  have cWh_1 := hWh.1 1 _ rfl
  have cWh_2 := hWh.1 2 _ rfl
  have zWh := hWh.2.2
  have cV1_0 := hV1.1 0 _ rfl
  have cV1_1 := hV1.1 1 _ rfl
  have cV1_2 := hV1.1 2 _ rfl
  have cV1_3 := hV1.1 3 _ rfl
  have zV1 := hV1.2.2
  have cV2_0 := hV2.1 0 _ rfl
  have cV2_1 := hV2.1 1 _ rfl
  have cV2_2 := hV2.1 2 _ rfl
  have cV2_3 := hV2.1 3 _ rfl
  have zV2 := hV2.2.2
  go_upto_region 52 with (go_at_call 16; (with_reducible refine (HA3.out _ (by rw [HNO.out]; exact hlog)).mono ?_); rintro e w9 ⟨rfl, k9⟩; clear cN_0 cN_1 cN_2 cN_3 cN_4 cN_5 cN_6 cN_7 zN cX_0 cX_1 cX_2 cX_3 cX_4 cX_5 zX cLd_0 cLd_1 cLd_2 zLd cWh_0 cWh_1 cWh_2 zWh cV1_0 cV1_1 cV1_2 cV1_3 zV1 cV2_0 cV2_1 cV2_2 cV2_3 zV2; have t_ := hN.below hN.2.2 k9; clear hN; have hN := t_; clear t_; have t_ := hX.below hX.2.2 k9; clear hX; have hX := t_; clear t_; have t_ := hLd.below hLd.2.2 k9; clear hLd; have hLd := t_; clear t_; have t_ := hWh.below hWh.2.2 k9; clear hWh; have hWh := t_; clear t_; have t_ := hV1.below hV1.2.2 k9; clear hV1; have hV1 := t_; clear t_; have t_ := hV2.below hV2.2.2 k9; clear hV2; have hV2 := t_; clear t_; have t_ := hnr6.below (Nat.le_refl _) k9; clear hnr6; have hnr6 := t_; clear t_; have t_ := hv1.below (Nat.le_refl _) k9; clear hv1; have hv1 := t_; clear t_; have t_ := hv2.below (Nat.le_refl _) k9; clear hv2; have hv2 := t_; clear t_; have t_ := hlog.below (Nat.le_refl _) k9; clear hlog; have hlog := t_; clear t_; have t_ := hb.trans (k9.mono hb.size); clear hb; have hb := t_; clear t_; clear k9; have cN_0 := hN.1 0 _ rfl; have cN_1 := hN.1 1 _ rfl; have cN_2 := hN.1 2 _ rfl; have cN_3 := hN.1 3 _ rfl; have cN_4 := hN.1 4 _ rfl; have cN_5 := hN.1 5 _ rfl; have cN_6 := hN.1 6 _ rfl; have cN_7 := hN.1 7 _ rfl; have zN := hN.2.2; have cX_0 := hX.1 0 _ rfl; have cX_1 := hX.1 1 _ rfl; have cX_2 := hX.1 2 _ rfl; have cX_3 := hX.1 3 _ rfl; have cX_4 := hX.1 4 _ rfl; have cX_5 := hX.1 5 _ rfl; have zX := hX.2.2; have cLd_0 := hLd.1 0 _ rfl; have cLd_1 := hLd.1 1 _ rfl; have cLd_2 := hLd.1 2 _ rfl; have zLd := hLd.2.2; have cWh_0 := hWh.1 0 _ rfl; have cWh_1 := hWh.1 1 _ rfl; have cWh_2 := hWh.1 2 _ rfl; have zWh := hWh.2.2; have cV1_0 := hV1.1 0 _ rfl; have cV1_1 := hV1.1 1 _ rfl; have cV1_2 := hV1.1 2 _ rfl; have cV1_3 := hV1.1 3 _ rfl; have zV1 := hV1.2.2; have cV2_0 := hV2.1 0 _ rfl; have cV2_1 := hV2.1 1 _ rfl; have cV2_2 := hV2.1 2 _ rfl; have cV2_3 := hV2.1 3 _ rfl; have zV2 := hV2.2.2)
  obtain ⟨W10, hW10⟩ : ∃ V : World, V = w9.alloc (.cells #[.int .i64 ak, .int .i64 at_, .int .i64 ax, .bool ag] 64) := ⟨_, rfl⟩
  rw [← hW10]
  clear cN_0 cN_1 cN_2 cN_3 cN_4 cN_5 cN_6 cN_7 zN cX_0 cX_1 cX_2 cX_3 cX_4 cX_5 zX cLd_0 cLd_1 cLd_2 zLd cWh_0 cWh_1 cWh_2 zWh cV1_0 cV1_1 cV1_2 cV1_3 zV1 cV2_0 cV2_1 cV2_2 cV2_3 zV2
  have a10 : Below w9.heap.size w9 W10 := by rw [hW10]; ((with_reducible repeat' first | exact .refl _ _ | refine .alloc ?_ ?_ _ | refine .setCell ?_ ?_ _ | refine .drew ?_ | refine below_drewN ?_ _) <;> first | omega | simp <;> omega)
  have hV3 : BxC W10 (w9.heap.size) [.int .i64 ak, .int .i64 at_, .int .i64 ax, .bool ag] := by
   rw [hW10]
   have h_ := BxC.made (w9) [.int .i64 ak, .int .i64 at_, .int .i64 ax, .bool ag] 64
   exact h_
  have t_ := hN.below hN.2.2 a10; clear hN; have hN := t_; clear t_
  have t_ := hX.below hX.2.2 a10; clear hX; have hX := t_; clear t_
  have t_ := hLd.below hLd.2.2 a10; clear hLd; have hLd := t_; clear t_
  have t_ := hWh.below hWh.2.2 a10; clear hWh; have hWh := t_; clear t_
  have t_ := hV1.below hV1.2.2 a10; clear hV1; have hV1 := t_; clear t_
  have t_ := hV2.below hV2.2.2 a10; clear hV2; have hV2 := t_; clear t_
  have t_ := hnr6.below (Nat.le_refl _) a10; clear hnr6; have hnr6 := t_; clear t_
  have t_ := hv1.below (Nat.le_refl _) a10; clear hv1; have hv1 := t_; clear t_
  have t_ := hv2.below (Nat.le_refl _) a10; clear hv2; have hv2 := t_; clear t_
  have t_ := hlog.below (Nat.le_refl _) a10; clear hlog; have hlog := t_; clear t_
  have t_ := hb.trans (a10.mono hb.size); clear hb; have hb := t_; clear t_
  clear hW10 a10
  have cN_0 := hN.1 0 _ rfl
  have cN_1 := hN.1 1 _ rfl
  have cN_2 := hN.1 2 _ rfl
  have cN_3 := hN.1 3 _ rfl
  have cN_4 := hN.1 4 _ rfl
  have cN_5 := hN.1 5 _ rfl
  have cN_6 := hN.1 6 _ rfl
  have cN_7 := hN.1 7 _ rfl
  have zN := hN.2.2
  have cX_0 := hX.1 0 _ rfl
  have cX_1 := hX.1 1 _ rfl
  have cX_2 := hX.1 2 _ rfl
  have cX_3 := hX.1 3 _ rfl
  have cX_4 := hX.1 4 _ rfl
  have cX_5 := hX.1 5 _ rfl
  have zX := hX.2.2
  have cLd_0 := hLd.1 0 _ rfl
  have cLd_1 := hLd.1 1 _ rfl
  have cLd_2 := hLd.1 2 _ rfl
  have zLd := hLd.2.2
  have cWh_0 := hWh.1 0 _ rfl
  have cWh_1 := hWh.1 1 _ rfl
  have cWh_2 := hWh.1 2 _ rfl
  have zWh := hWh.2.2
  have cV1_0 := hV1.1 0 _ rfl
  have cV1_1 := hV1.1 1 _ rfl
  have cV1_2 := hV1.1 2 _ rfl
  have cV1_3 := hV1.1 3 _ rfl
  have zV1 := hV1.2.2
  have cV2_0 := hV2.1 0 _ rfl
  have cV2_1 := hV2.1 1 _ rfl
  have cV2_2 := hV2.1 2 _ rfl
  have cV2_3 := hV2.1 3 _ rfl
  have zV2 := hV2.2.2
  have cV3_0 := hV3.1 0 _ rfl
  have cV3_1 := hV3.1 1 _ rfl
  have cV3_2 := hV3.1 2 _ rfl
  have cV3_3 := hV3.1 3 _ rfl
  have zV3 := hV3.2.2
  go_wp2_with fail
  go_meet
  exact hide ⟨⟨hN, hX, hLd⟩, hnr6, hv1, hlog, hb⟩
 case rest =>
  go_upto_region 54 with fail
  refine TopS_E (by omega) hnlf hnrt HVL HTop HNO hOl HBm hcut ?_
  intro a_ w_ h_
  go_step
  exact h_
end Go.Proofs.YthkoaecafmhlcaaGreat
