/- Parts TnB1 TnA of the proof, joined. -/
import Derived.Test.YthkoaecafmhlcaaGreatTnB2
/- TopSurvives, walked in pieces: the part from tail 5 on. -/
namespace Go.Proofs.YthkoaecafmhlcaaGreat
open Go.RowKit
attribute [local go_sem ↓] run_max_mx run_min_mn
attribute [local simp] size_drewT
set_option maxRecDepth 1000000 in
set_option maxHeartbeats 16000000 in
theorem TopS_B1 {f_0 f_1 f_5 f_6 f_8 f_9 f_10 f_12 f_14 f_15 f_17 f_18 f_19 f_20 f_21 f_22 f_23 f_24 f_25 f_26 f_27 f_28 f_29 f_30 f_31 f_32 f_33 f_34 f_35 f_36 f_37 f_38 f_39 f_40 f_41 f_42 f_43 f_44 f_45 f_46 f_47 f_48 f_49 f_50 f_51 f_52 f_53 f_54 f_55 f_56 f_57 f_58 f_59 f_60 f_61 f_62 f_63 f_64 f_65 f_66 f_67 f_68 f_69 f_70 f_71 f_72 f_73 f_74 f_75 f_76 f_77 f_78 f_79 f_80 f_81 f_82 f_83 f_84 f_85 f_86 f_87 f_88 f_89 f_90 f_91 f_92 f_93 f_94 f_95 f_96 f_97 f_98 f_99 f_100 f_101 f_102 f_103 f_104 f_105 f_106 f_107 f_108 f_109 f_110 f_111 f_112 f_113 f_114 f_115 f_116 f_117 f_118 f_119 f_120 f_121 f_122 f_123 f_124 f_125 f_126 f_127 f_128 f_129 f_130 f_131 f_132 f_133 f_134 f_135 f_136 f_137 f_138 f_139 f_140 f_141 f_142 f_143 f_144 f_145 f_146 f_147 f_148 f_149 f_150 f_151 f_152 f_153 f_154 f_155 f_156 f_157 f_158 f_159 f_160 f_161 f_162 f_163 f_164 f_165 f_166 f_167 f_168 f_169 f_170 f_171 f_172 f_173 f_174 f_175 f_176 f_177 f_178 f_179 f_180 f_181 f_182 f_183 f_184 f_185 f_186 f_187 f_188 f_189 f_190 f_191 f_192 f_193 f_194 f_195 f_196 f_197 f_198 f_199 f_200 f_201 f_202 f_203 f_204 f_205 f_206 f_207 f_208 f_209 f_210 f_211 f_212 f_213 f_214 f_215 f_216 f_217 f_218 f_219 f_220 f_221 f_222 f_223 f_224 f_225 f_226 f_227 f_228 f_229 f_230 f_231 f_232 f_233 f_234 f_235 f_236 f_237 f_238 f_239 f_240 f_241 f_242 f_243 f_244 f_245 f_246 f_247 f_248 f_249 f_250 f_251 f_252 f_253 f_254 f_255 f_256 f_257 f_258 f_259 f_260 f_261 f_262 f_263 f_264 f_265 f_266 f_267 f_268 f_269 f_270 f_271 f_272 f_273 f_274 f_275 f_276 f_277 f_278 f_279 f_280 f_281 f_282 f_283 f_284 f_285 f_286 f_287 f_288 f_289 f_290 f_291 f_292 f_293 f_294 f_295 f_296 f_297 f_298 f_299 f_300 f_301 f_302 f_303 f_304 f_305 f_306 f_307 f_308 f_309 f_310 f_311 f_312 f_313 f_314 f_315 f_316 f_317 f_318 f_319 f_320 f_321 f_322 f_323 f_324 f_325 f_326 f_327 f_328 f_329 f_330 f_331 f_332 f_333 f_334 f_335 f_336 f_337 f_338 f_339 f_340 f_341 f_342 f_343 f_344 f_345 f_346 f_347 f_348 f_349 f_350 f_351 f_352 f_353 f_354 f_355 f_356 f_357 f_358 f_359 f_360 f_361 f_362 f_363 : Value} {ni nt now LT naf nlf nrt key which lost c0 c1 c2 : Int} {nlk : Bool} {nra nwa sa oa da : Option Addr} {nrc nwc sn sc on oc dc m base BC : Nat} {nrl : List (Int × Int)} {nwl : List Wr} {D : List Tx} {w W3 : World} (hlost : 0 ≤ lost ∧ lost ≤ 255) (hkey : 1 ≤ key ∧ key ≤ 1000) (hwhich : 0 ≤ which ∧ which ≤ 255) (hLT : LT ≤ 60000000000) (hnow : 0 ≤ now ∧ now ≤ 60000000000) (hnlf : 0 ≤ nlf ∧ nlf ≤ 65535) (hnrt : 0 ≤ nrt ∧ nrt ≤ 65535) (HG : Hid (GoodD D)) (hDl12 : D.length ≤ 12) (HLen : Hid (on = (ldOf D m).opn.length ∧ sn = (ldOf D m).st.length ∧ LT = topTs D)) (hc0 : 0 ≤ c0 ∧ c0 ≤ 65535) (hc1 : 0 ≤ c1 ∧ c1 ≤ 65535) (hc2 : 0 ≤ c2 ∧ c2 ≤ 65535) (zCo : BC < W3.heap.size) (HX : Hid (∀ V : World, Below W3.heap.size W3 V → BxC V w.heap.size [.int .u16 c0, .int .u16 c1, .int .u16 c2] ∧ BxC V (w.heap.size + 1) [.int .i64 ni, .int .i64 nt, .slice nra nrl.length nrc, .slice nwa nwl.length nwc, .int .u32 naf, .int .u16 nlf, .int .u16 nrt, .bool nlk] ∧ BxC V BC [.int .i64 LT, .slice sa sn sc, .slice oa on oc, .slice da D.length dc, .int .i64 now, .bool true] ∧ RunS V base D m (.slice sa sn sc) (.slice oa on oc) (.slice da D.length dc) ∧ TvRd V (.slice nra nrl.length nrc) (.slice nwa nwl.length nwc) ⟨ni, nt, nrl, nwl⟩)) (HB3 : Hid (Below w.heap.size w W3)) {K : Act → World → Prop} (hK : ∀ a w', (seqTail 6 bodyTop).wp Tryz.prog (postTop w) a w' → K a w') : (seqHead (seqTail 5 bodyTop)).wp Tryz.prog (Exit.then K (postTop w)) ⟨List.toArray (f_0 :: f_1 :: .int .u8 lost :: .int .i64 key :: .int .u8 which :: f_5 :: f_6 :: .pointer (some ⟨w.heap.size, 0, none⟩) :: f_8 :: f_9 :: f_10 :: .pointer (some ⟨w.heap.size + 1, 0, none⟩) :: f_12 :: .bool true :: f_14 :: f_15 :: .pointer (some ⟨BC, 0, none⟩) :: f_17 :: f_18 :: f_19 :: f_20 :: f_21 :: f_22 :: f_23 :: f_24 :: f_25 :: f_26 :: f_27 :: f_28 :: f_29 :: f_30 :: f_31 :: f_32 :: f_33 :: f_34 :: f_35 :: f_36 :: f_37 :: f_38 :: f_39 :: f_40 :: f_41 :: f_42 :: f_43 :: f_44 :: f_45 :: f_46 :: f_47 :: f_48 :: f_49 :: f_50 :: f_51 :: f_52 :: f_53 :: f_54 :: f_55 :: f_56 :: f_57 :: f_58 :: f_59 :: f_60 :: f_61 :: f_62 :: f_63 :: f_64 :: f_65 :: f_66 :: f_67 :: f_68 :: f_69 :: f_70 :: f_71 :: f_72 :: f_73 :: f_74 :: f_75 :: f_76 :: f_77 :: f_78 :: f_79 :: f_80 :: f_81 :: f_82 :: f_83 :: f_84 :: f_85 :: f_86 :: f_87 :: f_88 :: f_89 :: f_90 :: f_91 :: f_92 :: f_93 :: f_94 :: f_95 :: f_96 :: f_97 :: f_98 :: f_99 :: f_100 :: f_101 :: f_102 :: f_103 :: f_104 :: f_105 :: f_106 :: f_107 :: f_108 :: f_109 :: f_110 :: f_111 :: f_112 :: f_113 :: f_114 :: f_115 :: f_116 :: f_117 :: f_118 :: f_119 :: f_120 :: f_121 :: f_122 :: f_123 :: f_124 :: f_125 :: f_126 :: f_127 :: f_128 :: f_129 :: f_130 :: f_131 :: f_132 :: f_133 :: f_134 :: f_135 :: f_136 :: f_137 :: f_138 :: f_139 :: f_140 :: f_141 :: f_142 :: f_143 :: f_144 :: f_145 :: f_146 :: f_147 :: f_148 :: f_149 :: f_150 :: f_151 :: f_152 :: f_153 :: f_154 :: f_155 :: f_156 :: f_157 :: f_158 :: f_159 :: f_160 :: f_161 :: f_162 :: f_163 :: f_164 :: f_165 :: f_166 :: f_167 :: f_168 :: f_169 :: f_170 :: f_171 :: f_172 :: f_173 :: f_174 :: f_175 :: f_176 :: f_177 :: f_178 :: f_179 :: f_180 :: f_181 :: f_182 :: f_183 :: f_184 :: f_185 :: f_186 :: f_187 :: f_188 :: f_189 :: f_190 :: f_191 :: f_192 :: f_193 :: f_194 :: f_195 :: f_196 :: f_197 :: f_198 :: f_199 :: f_200 :: f_201 :: f_202 :: f_203 :: f_204 :: f_205 :: f_206 :: f_207 :: f_208 :: f_209 :: f_210 :: f_211 :: f_212 :: f_213 :: f_214 :: f_215 :: f_216 :: f_217 :: f_218 :: f_219 :: f_220 :: f_221 :: f_222 :: f_223 :: f_224 :: f_225 :: f_226 :: f_227 :: f_228 :: f_229 :: f_230 :: f_231 :: f_232 :: f_233 :: f_234 :: f_235 :: f_236 :: f_237 :: f_238 :: f_239 :: f_240 :: f_241 :: f_242 :: f_243 :: f_244 :: f_245 :: f_246 :: f_247 :: f_248 :: f_249 :: f_250 :: f_251 :: f_252 :: f_253 :: f_254 :: f_255 :: f_256 :: f_257 :: f_258 :: f_259 :: f_260 :: f_261 :: f_262 :: f_263 :: f_264 :: f_265 :: f_266 :: f_267 :: f_268 :: f_269 :: f_270 :: f_271 :: f_272 :: f_273 :: f_274 :: f_275 :: f_276 :: f_277 :: f_278 :: f_279 :: f_280 :: f_281 :: f_282 :: f_283 :: f_284 :: f_285 :: f_286 :: f_287 :: f_288 :: f_289 :: f_290 :: f_291 :: f_292 :: f_293 :: f_294 :: f_295 :: f_296 :: f_297 :: f_298 :: f_299 :: f_300 :: f_301 :: f_302 :: f_303 :: f_304 :: f_305 :: f_306 :: f_307 :: f_308 :: f_309 :: f_310 :: f_311 :: f_312 :: f_313 :: f_314 :: f_315 :: f_316 :: f_317 :: f_318 :: f_319 :: f_320 :: f_321 :: f_322 :: f_323 :: f_324 :: f_325 :: f_326 :: f_327 :: f_328 :: f_329 :: f_330 :: f_331 :: f_332 :: f_333 :: f_334 :: f_335 :: f_336 :: f_337 :: f_338 :: f_339 :: f_340 :: f_341 :: f_342 :: f_343 :: f_344 :: f_345 :: f_346 :: f_347 :: f_348 :: f_349 :: f_350 :: f_351 :: f_352 :: f_353 :: f_354 :: f_355 :: f_356 :: f_357 :: f_358 :: f_359 :: f_360 :: f_361 :: f_362 :: f_363 :: []), []⟩ W3 := by
 unfold postTop at *
 conv at hK => enter [a, w', 1, 2]; whnf
 conv => arg 2; whnf
 obtain ⟨-, -, hX, -, -⟩ := HX.out W3 (.refl _ _)
 have z3w := HB3.out.size
 have chX_0 := hX.1 0 _ rfl; have chX_1 := hX.1 1 _ rfl; have chX_2 := hX.1 2 _ rfl; have chX_3 := hX.1 3 _ rfl; have chX_4 := hX.1 4 _ rfl; have chX_5 := hX.1 5 _ rfl; have fhX := hX.2.1; have zhX := hX.2.2
 go_wp2_with fail
 clear chX_0 chX_1 chX_2 chX_3 chX_4 chX_5 fhX zhX hX
 go_loopw [92, 17] (fun s92 s17 wx => ∃ (k : Nat) (a : Option Addr) (n c : Nat), k ≤ D.length ∧ s92 = .int .i64 k ∧ s17 = .slice a n c ∧ Hid (BRow wx (.slice a n c) (logB (D.take k))) ∧ Below W3.heap.size W3 wx) (fun s92 _ _ => D.length - (intOf s92).toNat)
 case atStart => exact ⟨0, none, 0, 0, Nat.zero_le _, rfl, rfl, hide (Rws.nil _), .refl _ _⟩
 case round =>
 obtain ⟨k, ga, gn, gc, hk, rfl, rfl, HL, hB⟩ := hrel
 by_cases hlt : k < D.length
 ·obtain ⟨-, -, -, hR, -⟩ := HX.out wr hB
  obtain ⟨b, off, cap', rv, wv, hbv, hlt0, x0, x1, x2, x3, hrd⟩ := TxR.at_ hR.dn.ty.row (i := k) hlt
  cases hbv
  have hm := HG.out.2 _ (txAt_mem hlt)
  have hgt : GoodD (D.take k) := HG.out.sub (List.take_sublist _ _)
  have htl := topTs_lt HG.out hlt
  obtain ⟨ar, cr, rfl, -⟩ := id hrd.1
  obtain ⟨aw, cw, rfl, -⟩ := id hrd.2
  have HAp := hide (fun (V : World) (hV : Below wr.heap.size wr V) => Append_any _ (D.take k) _ _ (txAt D k) V (HL.out.below (Nat.le_refl _) hV) hgt (by rw [List.length_take]; omega) (hrd.below (Nat.le_refl _) hV) hm.1 hm.2 htl)
  have htk : D.take (k + 1) = D.take k ++ [txAt D k] := by rw [List.take_succ_eq_append_getElem hlt, txAt_lt hlt]
  rw [← htk] at HAp
  have HTk := hide trivial
  clear hm hgt htl htk hR hrd
  generalize txAt D k = T at *
  obtain ⟨ti, tt, rl, wl⟩ := T
  dsimp only [valT] at *
  have I1 : (0 : Int) ≤ (k : Int) := by omega
  have I2 : (k : Int) < (D.length : Int) := by omega
  have hz := hB.size
  go_wp2_with (go_at_call 8; (with_reducible refine (HAp.out _ (by ((with_reducible repeat' first | exact .refl _ _ | refine .alloc ?_ ?_ _ | refine .setCell ?_ ?_ _ | refine .drew ?_ | refine below_drewN ?_ _) <;> first | omega | simp <;> omega))).mono ?_); rintro e w4 ⟨⟨ov, rfl, ho⟩, k4⟩; have k4' : Below wr.heap.size wr w4 := (by ((with_reducible repeat' first | exact .refl _ _ | exact k4 | refine .alloc ?_ ?_ _ | refine .setCell ?_ ?_ _ | refine .drew ?_ | refine below_drewN ?_ _ | refine Below.trans ?_ (k4.mono ?_)) <;> first | omega | simp <;> omega)); have hr4 := ho.row encB_length 0 (by omega); obtain ⟨oa4, oc4, hov4, -⟩ := hr4.len; clear ho; subst hov4)
  go_roundw
  case rel => exact ⟨k + 1, oa4, _, oc4, by omega, by go_num, rfl, hide hr4, hB.trans (k4'.mono hz)⟩
  case measure => simp [intOf]; omega
 obtain rfl : k = D.length := by omega
 have hL := HL.out
 rw [List.take_length] at hL
 obtain ⟨ga_, gc_, hge, -⟩ := hL.len
 simp only [Value.slice.injEq] at hge
 obtain ⟨-, hgn, -⟩ := hge
 have HGn := hide hgn
 clear HL hlt hk hgn
 have zr3 := hB.size
 have HXr := hide (fun (V : World) (hV : Below wr.heap.size wr V) => HX.out V (hB.trans (hV.mono zr3)))
 have HLr := hide (fun (V : World) (hV : Below wr.heap.size wr V) => hL.below (Nat.le_refl _) hV)
 have HBr := hide (HB3.out.trans (hB.mono z3w))
 have hzBC : BC < wr.heap.size := by omega
 clear hB hL HX
 go_upto_region 20 with fail
 refine TopS_B2 hlost hkey hwhich hLT hnow hnlf hnrt HG hDl12 HLen hc0 hc1 hc2 hzBC HGn HXr HLr HBr ?_
 intro a_ w_ h_
 go_step
 exact h_
end Go.Proofs.YthkoaecafmhlcaaGreat
/- The walk of TopSurvives. -/
namespace Go.Proofs.YthkoaecafmhlcaaGreat
open Go.RowKit
attribute [local go_sem ↓] run_max_mx run_min_mn
attribute [local simp] size_drewT
set_option maxRecDepth 100000 in
set_option maxHeartbeats 16000000 in
theorem TopS_any (w : World) (v0 : Value) (l : List Dd) (hl : DdR w v0 l) (v1 : Value) (cu : U3) (hcu : U3Ok w v1 cu) (lost : Int) (hlost : 0 ≤ lost ∧ lost ≤ 255) (key which : Int) (hwhich : 0 ≤ which ∧ which ≤ 255) (v5 : Value) (nx : Dd) (hnx : DdV w v5 nx) :
  Calls Tryz.prog 3 #[v0, v1, .int .u8 lost, .int .i64 key, .int .u8 which, v5] w fun e w' => e = .returned (.bool true) ∧ Below w.heap.size w w' := by
 obtain ⟨rfl, hnr, hnN⟩ := hnx
 obtain ⟨xr, xw, ⟨ni, nt, nrl, nwl⟩, naf, nlf, nrt, nlk⟩ := nx
 obtain ⟨rfl, hc0, hc1, hc2⟩ := hcu
 obtain ⟨c0, c1, c2⟩ := cu
 dsimp only [encD] at *
 unfold DdN at hnN
 dsimp only at hnN
 obtain ⟨nra, nrc, hxr, -⟩ := id hnr.1
 obtain ⟨nwa, nwc, hxw, -⟩ := id hnr.2
 dsimp only at hxr hxw
 subst hxr hxw
 obtain ⟨la, lc, rfl, -⟩ := hl.1.len
 obtain ⟨W0, hW0⟩ : ∃ V, V = (w.alloc (.cells #[.int .u16 c0, .int .u16 c1, .int .u16 c2] 24)).alloc (.cells #[.int .i64 ni, .int .i64 nt, .slice nra nrl.length nrc, .slice nwa nwl.length nwc, .int .u32 naf, .int .u16 nlf, .int .u16 nrt, .bool nlk] 31) := ⟨_, rfl⟩
 have hC : BxC W0 w.heap.size [.int .u16 c0, .int .u16 c1, .int .u16 c2] := by rw [hW0]; exact (BxC.made w _ _).alloc _
 have hN : BxC W0 (w.heap.size + 1) [.int .i64 ni, .int .i64 nt, .slice nra nrl.length nrc, .slice nwa nwl.length nwc, .int .u32 naf, .int .u16 nlf, .int .u16 nrt, .bool nlk] := by
  have h_ := BxC.made (w.alloc (.cells #[.int .u16 c0, .int .u16 c1, .int .u16 c2] 24)) [.int .i64 ni, .int .i64 nt, .slice nra nrl.length nrc, .slice nwa nwl.length nwc, .int .u32 naf, .int .u16 nlf, .int .u16 nrt, .bool nlk] 31
  rw [World.size_alloc] at h_
  rw [hW0]; exact h_
 have hb : Below w.heap.size w W0 := by rw [hW0]; ((with_reducible repeat' first | exact .refl _ _ | refine .alloc ?_ ?_ _ | refine .setCell ?_ ?_ _ | refine .drew ?_ | refine below_drewN ?_ _) <;> first | omega | simp <;> omega)
 have t_ := hl.below (Nat.le_refl _) hb
 clear hl
 have hl := t_
 have t2_ := hnr.below (Nat.le_refl _) hb
 clear hnr t_
 have hnr := t2_
 clear t2_
 go_enter Tryz.func3, Tryz.ntmps3
 go_upto_region 1 with fail
 rw [← hW0]
 clear hW0
 have cC_0 := hC.1 0 _ rfl
 have cC_1 := hC.1 1 _ rfl
 have cC_2 := hC.1 2 _ rfl
 have zC := hC.2.2
 have cN_0 := hN.1 0 _ rfl
 have cN_1 := hN.1 1 _ rfl
 have cN_2 := hN.1 2 _ rfl
 have cN_3 := hN.1 3 _ rfl
 have cN_4 := hN.1 4 _ rfl
 have cN_5 := hN.1 5 _ rfl
 have cN_6 := hN.1 6 _ rfl
 have cN_7 := hN.1 7 _ rfl
 have zN := hN.2.2
 go_upto_region 2 with (go_at_call 4; (with_reducible refine (Logs_any _).mono ?_); rintro e w1 ⟨rfl, k1⟩; clear cC_0 cC_1 cC_2 zC cN_0 cN_1 cN_2 cN_3 cN_4 cN_5 cN_6 cN_7 zN; have t_ := hC.below hC.2.2 k1; clear hC; have hC := t_; clear t_; have t_ := hN.below hN.2.2 k1; clear hN; have hN := t_; clear t_; have t_ := hl.below (Nat.le_refl _) k1; clear hl; have hl := t_; clear t_; have t_ := hnr.below (Nat.le_refl _) k1; clear hnr; have hnr := t_; clear t_; have t_ := hb.trans (k1.mono hb.size); clear hb; have hb := t_; clear t_; clear k1; have cC_0 := hC.1 0 _ rfl; have cC_1 := hC.1 1 _ rfl; have cC_2 := hC.1 2 _ rfl; have zC := hC.2.2; have cN_0 := hN.1 0 _ rfl; have cN_1 := hN.1 1 _ rfl; have cN_2 := hN.1 2 _ rfl; have cN_3 := hN.1 3 _ rfl; have cN_4 := hN.1 4 _ rfl; have cN_5 := hN.1 5 _ rfl; have cN_6 := hN.1 6 _ rfl; have cN_7 := hN.1 7 _ rfl; have zN := hN.2.2)
 obtain ⟨KB, hKB⟩ : ∃ b, b = keyB key := ⟨_, rfl⟩
 have HKB := hide hKB
 have HKc := hide (fun (V : World) => hKB ▸ Key33_any key V)
 obtain ⟨FB, hFB⟩ : ∃ b, b = fewB ⟨ni, nt, nrl, nwl⟩ := ⟨_, rfl⟩
 have HFc := hide (fun (b c : Nat) (V : World) (x2 : V.cell? ⟨b, 2, none⟩ = some (.slice nra nrl.length nrc)) (x3 : V.cell? ⟨b, 3, none⟩ = some (.slice nwa nwl.length nwc)) (hV : Below w1.heap.size w1 V) => hFB ▸ FewTxs1_any b c _ _ ⟨ni, nt, nrl, nwl⟩ V x2 x3 (hnr.below (Nat.le_refl _) hV))
 clear hKB hFB
 by_cases h12 : 12 < l.length
 ·have d1 : decide ((12 : Int) < (l.length : Int)) = true := decide_eq_true (by omega)
  go_wp2_with fail
  go_ret
  exact ⟨rfl, hb⟩
 have d1 : decide ((12 : Int) < (l.length : Int)) = false := decide_eq_false (by omega)
 cases KB with
 | false =>
  go_wp2_with (go_at_call 5; (with_reducible refine (HKc.out _).mono ?_); rintro e w2 ⟨rfl, rfl⟩)
  go_ret
  exact ⟨rfl, hb⟩
 | true =>
 cases FB with
 | false =>
  go_wp2_with (first | (go_at_call 5; (with_reducible refine (HKc.out _).mono ?_); rintro e w2 ⟨rfl, rfl⟩) | (go_at_call 6; (with_reducible refine (HFc.out w1.heap.size _ _ (by simp [go_sem]) (by simp [go_sem]) (by ((with_reducible repeat' first | exact .refl _ _ | refine .alloc ?_ ?_ _ | refine .setCell ?_ ?_ _ | refine .drew ?_ | refine below_drewN ?_ _) <;> first | omega | simp <;> omega))).mono ?_); rintro e w3 ⟨rfl, k3⟩; have k3' : Below w1.heap.size w1 w3 := (by ((with_reducible repeat' first | exact .refl _ _ | exact k3 | refine .alloc ?_ ?_ _ | refine .setCell ?_ ?_ _ | refine .drew ?_ | refine below_drewN ?_ _ | refine Below.trans ?_ (k3.mono ?_)) <;> first | omega | simp <;> omega))))
  go_ret
  exact ⟨rfl, hb.trans (k3'.mono hb.size)⟩
 | true =>
 have hkey : 1 ≤ key ∧ key ≤ 1000 := by
  have h_ := HKB.out
  unfold keyB at h_
  exact of_decide_eq_true h_.symm
 go_upto_region 5 with (first | (go_at_call 5; (with_reducible refine (HKc.out _).mono ?_); rintro e w2 ⟨rfl, rfl⟩) | (go_at_call 6; (with_reducible refine (HFc.out w1.heap.size _ _ (by simp [go_sem]) (by simp [go_sem]) (by ((with_reducible repeat' first | exact .refl _ _ | refine .alloc ?_ ?_ _ | refine .setCell ?_ ?_ _ | refine .drew ?_ | refine below_drewN ?_ _) <;> first | omega | simp <;> omega))).mono ?_); rintro e w3 ⟨rfl, k3⟩; have k3' : Below w1.heap.size w1 w3 := (by ((with_reducible repeat' first | exact .refl _ _ | exact k3 | refine .alloc ?_ ?_ _ | refine .setCell ?_ ?_ _ | refine .drew ?_ | refine below_drewN ?_ _ | refine Below.trans ?_ (k3.mono ?_)) <;> first | omega | simp <;> omega))))
 clear HFc HKc d1 k3 cC_0 cC_1 cC_2 zC cN_0 cN_1 cN_2 cN_3 cN_4 cN_5 cN_6 cN_7 zN
 have t_ := hC.below hC.2.2 k3'; clear hC; have hC := t_; clear t_
 have t_ := hN.below hN.2.2 k3'; clear hN; have hN := t_; clear t_
 have t_ := hl.below (Nat.le_refl _) k3'; clear hl; have hl := t_; clear t_
 have t_ := hnr.below (Nat.le_refl _) k3'; clear hnr; have hnr := t_; clear t_
 have t_ := hb.trans (k3'.mono hb.size); clear hb; have hb := t_; clear t_
 clear k3'
 have H3 := hide (fun (V : World) (hV : Below w3.heap.size w3 V) => And.intro (hC.below hC.2.2 hV) (And.intro (hN.below hN.2.2 hV) (And.intro (hl.below (Nat.le_refl _) hV) (And.intro (hnr.below (Nat.le_refl _) hV) (hb.trans (hV.mono hb.size))))))
 clear hC hN hl hnr hb
 go_loopw [76] (fun s76 wx => ∃ (i : Nat), i ≤ l.length ∧ s76 = .int .i64 i ∧ Below w3.heap.size w3 wx) (fun s76 _ => l.length - (intOf s76).toNat)
 case atStart => exact ⟨0, Nat.zero_le _, rfl, .refl _ _⟩
 case round =>
 obtain ⟨i, hi, rfl, hB⟩ := hrel
 by_cases hlt : i < l.length
 ·obtain ⟨-, -, hl, -, hb⟩ := H3.out wr hB
  obtain ⟨b, off, cap', x, hbv, hlt0, hc, hrd, -, -⟩ := hl.at_ hlt
  cases hbv
  obtain ⟨xr, xw, ⟨ti, tt, rl, wl⟩, af, lf, rt, lk⟩ := x
  have x0 := hc 0 _ rfl
  have x1 := hc 1 _ rfl
  have x2 := hc 2 _ rfl
  have x3 := hc 3 _ rfl
  have x4 := hc 4 _ rfl
  have x5 := hc 5 _ rfl
  have x6 := hc 6 _ rfl
  have x7 := hc 7 _ rfl
  simp only [Nat.add_zero] at x0
  dsimp only at hrd x0 x1 x2 x3 x4 x5 x6 x7
  obtain ⟨ra, rc, hxr, -⟩ := id hrd.1
  obtain ⟨wa, wc, hxw, -⟩ := id hrd.2
  dsimp only at hxr hxw
  subst hxr hxw
  have I1 : (0 : Int) ≤ (i : Int) := by omega
  have I2 : (i : Int) < (l.length : Int) := by omega
  obtain ⟨GB, hGB⟩ : ∃ b, b = fewB ⟨ti, tt, rl, wl⟩ := ⟨_, rfl⟩
  have HGc := hide (fun (b c : Nat) (V : World) (y2 : V.cell? ⟨b, 2, none⟩ = some (.slice ra rl.length rc)) (y3 : V.cell? ⟨b, 3, none⟩ = some (.slice wa wl.length wc)) (hV : Below wr.heap.size wr V) => hGB ▸ FewTxs1_any b c _ _ ⟨ti, tt, rl, wl⟩ V y2 y3 (hrd.below (Nat.le_refl _) hV))
  have hz := hB.size
  clear hGB hc hrd hl
  cases GB with
  | false =>
   go_wp2_with (go_at_call 6; (with_reducible refine (HGc.out (wr.heap.size + 1) _ _ (by simp [go_sem]) (by simp [go_sem]) (by ((with_reducible repeat' first | exact .refl _ _ | refine .alloc ?_ ?_ _ | refine .setCell ?_ ?_ _ | refine .drew ?_ | refine below_drewN ?_ _) <;> first | omega | simp <;> omega))).mono ?_); rintro e w4 ⟨rfl, k4⟩; have k4' : Below wr.heap.size wr w4 := (by ((with_reducible repeat' first | exact .refl _ _ | exact k4 | refine .alloc ?_ ?_ _ | refine .setCell ?_ ?_ _ | refine .drew ?_ | refine below_drewN ?_ _ | refine Below.trans ?_ (k4.mono ?_)) <;> first | omega | simp <;> omega)))
   go_ret
   exact ⟨rfl, hb.trans (k4'.mono hb.size)⟩
  | true =>
   go_wp2_with (go_at_call 6; (with_reducible refine (HGc.out (wr.heap.size + 1) _ _ (by simp [go_sem]) (by simp [go_sem]) (by ((with_reducible repeat' first | exact .refl _ _ | refine .alloc ?_ ?_ _ | refine .setCell ?_ ?_ _ | refine .drew ?_ | refine below_drewN ?_ _) <;> first | omega | simp <;> omega))).mono ?_); rintro e w4 ⟨rfl, k4⟩; have k4' : Below wr.heap.size wr w4 := (by ((with_reducible repeat' first | exact .refl _ _ | exact k4 | refine .alloc ?_ ?_ _ | refine .setCell ?_ ?_ _ | refine .drew ?_ | refine below_drewN ?_ _ | refine Below.trans ?_ (k4.mono ?_)) <;> first | omega | simp <;> omega)))
   go_roundw
   case rel => exact ⟨i + 1, by omega, by go_num, hB.trans (k4'.mono hz)⟩
   case measure => simp [intOf]; omega
 obtain rfl : i = l.length := by omega
 obtain ⟨hC, hN, hl, hnr, hb⟩ := H3.out wr hB
 have hRun := Run_any _ l wr hl (by omega)
 unfold RunPost at hRun
 have HRun := hide hRun
 have HLl := hide (show l.length ≤ 12 by omega)
 clear H3 hB hl hRun hlt hi
 go_upto_region 10 with fail
 have cC_0 := hC.1 0 _ rfl
 have cC_1 := hC.1 1 _ rfl
 have cC_2 := hC.1 2 _ rfl
 have zC := hC.2.2
 have cN_0 := hN.1 0 _ rfl
 have cN_1 := hN.1 1 _ rfl
 have cN_2 := hN.1 2 _ rfl
 have cN_3 := hN.1 3 _ rfl
 have cN_4 := hN.1 4 _ rfl
 have cN_5 := hN.1 5 _ rfl
 have cN_6 := hN.1 6 _ rfl
 have cN_7 := hN.1 7 _ rfl
 have zN := hN.2.2
 go_upto_region 11 with (go_at_call 7; (with_reducible refine (HRun.out).mono ?_); rintro e w2 ⟨⟨D, m, stv, opv, dv, now, rfl, hR, hDl, hTs, hn0, hn1⟩, k2⟩; have hop := hR.op.val; obtain ⟨oa, oc, hov, -, -⟩ := hR.op.ty.row.len; obtain ⟨sa, sc, hsv, -, -⟩ := hR.st.val; obtain ⟨da, dc, hdv, -, -⟩ := hR.dn.ty.row.len; obtain ⟨on, hon⟩ : ∃ n, n = (ldOf D m).opn.length := ⟨_, rfl⟩; obtain ⟨sn, hsn⟩ : ∃ n, n = (ldOf D m).st.length := ⟨_, rfl⟩; obtain ⟨LT, hLT⟩ : ∃ x, x = topTs D := ⟨_, rfl⟩; rw [← hon] at hov; rw [← hsn] at hsv; rw [← hLT] at hTs ⊢; subst hov hsv hdv; have HLen := hide (And.intro hon (And.intro hsn hLT)); clear hon hsn hLT; clear cC_0 cC_1 cC_2 zC cN_0 cN_1 cN_2 cN_3 cN_4 cN_5 cN_6 cN_7 zN; have t_ := hC.below hC.2.2 k2; clear hC; have hC := t_; clear t_; have t_ := hN.below hN.2.2 k2; clear hN; have hN := t_; clear t_; have t_ := hnr.below (Nat.le_refl _) k2; clear hnr; have hnr := t_; clear t_; have t_ := hb.trans (k2.mono hb.size); clear hb; have hb := t_; clear t_; clear k2; have cC_0 := hC.1 0 _ rfl; have cC_1 := hC.1 1 _ rfl; have cC_2 := hC.1 2 _ rfl; have zC := hC.2.2; have cN_0 := hN.1 0 _ rfl; have cN_1 := hN.1 1 _ rfl; have cN_2 := hN.1 2 _ rfl; have cN_3 := hN.1 3 _ rfl; have cN_4 := hN.1 4 _ rfl; have cN_5 := hN.1 5 _ rfl; have cN_6 := hN.1 6 _ rfl; have cN_7 := hN.1 7 _ rfl; have zN := hN.2.2)
 obtain ⟨W3, hW3⟩ : ∃ V, V = w2.alloc (.cells #[.int .i64 LT, .slice sa sn sc, .slice oa on oc, .slice da D.length dc, .int .i64 now, .bool true] 40) := ⟨_, rfl⟩
 rw [← hW3]
 have k3 : Below w2.heap.size w2 W3 := by rw [hW3]; ((with_reducible repeat' first | exact .refl _ _ | refine .alloc ?_ ?_ _ | refine .setCell ?_ ?_ _ | refine .drew ?_ | refine below_drewN ?_ _) <;> first | omega | simp <;> omega)
 have hX : BxC W3 w2.heap.size [.int .i64 LT, .slice sa sn sc, .slice oa on oc, .slice da D.length dc, .int .i64 now, .bool true] := by rw [hW3]; exact BxC.made w2 _ _
 have HB3 := hide (hb.trans (k3.mono hb.size))
 have HX := hide (fun (V : World) (hV : Below W3.heap.size W3 V) => And.intro (hC.below hC.2.2 (k3.trans (hV.mono k3.size))) (And.intro (hN.below hN.2.2 (k3.trans (hV.mono k3.size))) (And.intro (hX.below hX.2.2 hV) (And.intro (hR.below (k3.trans (hV.mono k3.size))) (hnr.below (Nat.le_refl _) (k3.trans (hV.mono k3.size)))))))
 have HG := hide hR.g
 have hDl12 : D.length ≤ 12 := Nat.le_trans hDl (by omega)
 have zCo := hX.2.2
 clear hW3 k3 hC hN hnr hX hR hb hDl cC_0 cC_1 cC_2 zC cN_0 cN_1 cN_2 cN_3 cN_4 cN_5 cN_6 cN_7 zN
 obtain ⟨BC, hBC⟩ : ∃ b, b = w2.heap.size := ⟨_, rfl⟩
 rw [← hBC] at HX zCo ⊢
 clear hBC
 have hLl_ := HLl.out
 refine TopS_B1 hlost hkey hwhich (by omega) (by omega) hnN.2.1 hnN.2.2 HG hDl12 HLen hc0 hc1 hc2 zCo HX HB3 ?_
 intro a_ w_ h_
 go_step
 exact h_
end Go.Proofs.YthkoaecafmhlcaaGreat
