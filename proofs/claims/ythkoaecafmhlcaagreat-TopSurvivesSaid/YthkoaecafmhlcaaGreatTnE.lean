/- TopSurvives, walked in pieces: the part from tail 20 on. -/
import Derived.Test.YthkoaecafmhlcaaGreatJ45
namespace Go.Proofs.YthkoaecafmhlcaaGreat
open Go.RowKit
attribute [local go_sem ↓] run_max_mx run_min_mn
attribute [local simp] size_drewT
set_option maxRecDepth 1000000 in
set_option maxHeartbeats 16000000 in
theorem TopS_E {f_0 f_1 f_2 f_3 f_4 f_5 f_6 f_7 f_8 f_9 f_10 f_12 f_14 f_15 f_17 f_18 f_19 f_20 f_21 f_22 f_23 f_24 f_25 f_26 f_27 f_28 f_29 f_30 f_31 f_32 f_33 f_34 f_35 f_37 f_38 f_39 f_40 f_41 f_43 f_44 f_45 f_46 f_47 f_48 f_49 f_50 f_51 f_52 f_53 f_54 f_55 f_56 f_57 f_58 f_59 f_60 f_61 f_62 f_63 f_64 f_65 f_66 f_67 f_68 f_69 f_70 f_71 f_72 f_73 f_74 f_75 f_76 f_77 f_78 f_79 f_80 f_81 f_82 f_83 f_84 f_85 f_86 f_87 f_88 f_89 f_90 f_91 f_92 f_93 f_94 f_95 f_96 f_97 f_98 f_99 f_100 f_101 f_102 f_103 f_104 f_105 f_106 f_107 f_108 f_109 f_110 f_111 f_112 f_113 f_114 f_115 f_116 f_117 f_118 f_119 f_120 f_121 f_122 f_123 f_124 f_125 f_126 f_127 f_128 f_129 f_130 f_131 f_132 f_133 f_134 f_135 f_136 f_137 f_138 f_139 f_140 f_141 f_142 f_143 f_144 f_145 f_146 f_147 f_148 f_149 f_150 f_151 f_152 f_153 f_154 f_155 f_156 f_157 f_158 f_159 f_160 f_161 f_162 f_163 f_164 f_165 f_166 f_167 f_168 f_169 f_170 f_171 f_172 f_173 f_174 f_175 f_176 f_177 f_178 f_179 f_180 f_181 f_182 f_183 f_184 f_185 f_186 f_187 f_188 f_189 f_190 f_191 f_192 f_193 f_194 f_195 f_196 f_197 f_198 f_199 f_200 f_201 f_202 f_203 f_204 f_205 f_206 f_207 f_208 f_209 f_210 f_211 f_212 f_213 f_214 f_215 f_216 f_217 f_218 f_219 f_220 f_221 f_222 f_223 f_224 f_225 f_226 f_227 f_228 f_229 f_230 f_231 f_232 f_233 f_234 f_235 f_236 f_237 f_238 f_239 f_240 f_241 f_242 f_243 f_244 f_245 f_246 f_247 f_248 f_249 f_250 f_251 f_252 f_253 f_254 f_255 f_256 f_257 f_258 f_259 f_260 f_261 f_262 f_263 f_264 f_265 f_266 f_267 f_268 f_269 f_270 f_271 f_272 f_273 f_274 f_275 f_276 f_277 f_278 f_279 f_280 f_281 f_282 f_283 f_284 f_285 f_286 f_287 f_288 f_289 f_290 f_291 f_292 f_293 f_294 f_295 f_296 f_297 f_298 f_299 f_300 f_301 f_302 f_303 f_304 f_305 f_306 f_307 f_308 f_309 f_310 f_311 f_312 f_313 f_314 f_315 f_316 f_317 f_318 f_319 f_320 f_321 f_322 f_323 f_324 f_325 f_326 f_327 f_328 f_329 f_330 f_331 f_332 f_333 f_334 f_335 f_336 f_337 f_338 f_339 f_340 f_341 f_342 f_343 f_344 f_345 f_346 f_347 f_348 f_349 f_350 f_351 f_352 f_353 f_354 f_355 f_356 f_357 f_358 f_359 f_360 f_361 f_362 f_363 : Value} {w wM wc : World} {BL BC : Nat} {ni nt now LT LO naf nlf nrt : Int} {nlk : Bool} {nra nwa sa oa da va1 qa : Option Addr} {nrc nwc sn sc on oc dc s1 vc1 nO qc : Nat} {nrl : List (Int × Int)} {nwl : List Wr} {S1 : List Ver} {D O : List Tx} (hnow : 0 ≤ now ∧ now ≤ 1000000000000) (hnlf : 0 ≤ nlf ∧ nlf ≤ 65535) (hnrt : 0 ≤ nrt ∧ nrt ≤ 65535) (HVL : Hid (VL ⟨LO, S1, []⟩ ∧ S1.length ≤ 800)) (HTop : Hid (∀ t, t ∈ O → t.ts ≤ LO)) (HNO : Hid (nO = O.length)) (hOl : O.length ≤ 12) (HBm : Hid (Below w.heap.size w wM)) (hcut : Hid ((BxC wc (w.heap.size + 1) [.int .i64 ni, .int .i64 nt, .slice nra nrl.length nrc, .slice nwa nwl.length nwc, .int .u32 naf, .int .u16 nlf, .int .u16 nrt, .bool nlk] ∧ BxC wc BC [.int .i64 LT, .slice sa sn sc, .slice oa on oc, .slice da D.length dc, .int .i64 now, .bool true] ∧ BxC wc BL [.int .i64 LO, .slice va1 s1 vc1, .slice none 0 0]) ∧ TvRd wc (.slice nra nrl.length nrc) (.slice nwa nwl.length nwc) ⟨ni, nt, nrl, nwl⟩ ∧ Rws encVr 4 ver0 wc (.slice va1 s1 vc1) S1 ∧ TxR wc (.slice qa O.length qc) O ∧ Below wM.heap.size wM wc)) {K : Act → World → Prop} (hK : ∀ a w', (seqTail 21 bodyTop).wp Tryz.prog (postTop w) a w' → K a w') : (seqHead (seqTail 20 bodyTop)).wp Tryz.prog (Exit.then K (postTop w)) ⟨List.toArray (f_0 :: f_1 :: f_2 :: f_3 :: f_4 :: f_5 :: f_6 :: f_7 :: f_8 :: f_9 :: f_10 :: .pointer (some ⟨w.heap.size + 1, 0, none⟩) :: f_12 :: .bool true :: f_14 :: f_15 :: .pointer (some ⟨BC, 0, none⟩) :: f_17 :: f_18 :: f_19 :: f_20 :: f_21 :: f_22 :: f_23 :: f_24 :: f_25 :: f_26 :: f_27 :: f_28 :: f_29 :: f_30 :: f_31 :: f_32 :: f_33 :: f_34 :: f_35 :: .pointer (some ⟨BL, 0, none⟩) :: f_37 :: f_38 :: f_39 :: f_40 :: f_41 :: .slice qa nO qc :: f_43 :: f_44 :: f_45 :: f_46 :: f_47 :: f_48 :: f_49 :: f_50 :: f_51 :: f_52 :: f_53 :: f_54 :: f_55 :: f_56 :: f_57 :: f_58 :: f_59 :: f_60 :: f_61 :: f_62 :: f_63 :: f_64 :: f_65 :: f_66 :: f_67 :: f_68 :: f_69 :: f_70 :: f_71 :: f_72 :: f_73 :: f_74 :: f_75 :: f_76 :: f_77 :: f_78 :: f_79 :: f_80 :: f_81 :: f_82 :: f_83 :: f_84 :: f_85 :: f_86 :: f_87 :: f_88 :: f_89 :: f_90 :: f_91 :: f_92 :: f_93 :: f_94 :: f_95 :: f_96 :: f_97 :: f_98 :: f_99 :: f_100 :: f_101 :: f_102 :: f_103 :: f_104 :: f_105 :: f_106 :: f_107 :: f_108 :: f_109 :: f_110 :: f_111 :: f_112 :: f_113 :: f_114 :: f_115 :: f_116 :: f_117 :: f_118 :: f_119 :: f_120 :: f_121 :: f_122 :: f_123 :: f_124 :: f_125 :: f_126 :: f_127 :: f_128 :: f_129 :: f_130 :: f_131 :: f_132 :: f_133 :: f_134 :: f_135 :: f_136 :: f_137 :: f_138 :: f_139 :: f_140 :: f_141 :: f_142 :: f_143 :: f_144 :: f_145 :: f_146 :: f_147 :: f_148 :: f_149 :: f_150 :: f_151 :: f_152 :: f_153 :: f_154 :: f_155 :: f_156 :: f_157 :: f_158 :: f_159 :: f_160 :: f_161 :: f_162 :: f_163 :: f_164 :: f_165 :: f_166 :: f_167 :: f_168 :: f_169 :: f_170 :: f_171 :: f_172 :: f_173 :: f_174 :: f_175 :: f_176 :: f_177 :: f_178 :: f_179 :: f_180 :: f_181 :: f_182 :: f_183 :: f_184 :: f_185 :: f_186 :: f_187 :: f_188 :: f_189 :: f_190 :: f_191 :: f_192 :: f_193 :: f_194 :: f_195 :: f_196 :: f_197 :: f_198 :: f_199 :: f_200 :: f_201 :: f_202 :: f_203 :: f_204 :: f_205 :: f_206 :: f_207 :: f_208 :: f_209 :: f_210 :: f_211 :: f_212 :: f_213 :: f_214 :: f_215 :: f_216 :: f_217 :: f_218 :: f_219 :: f_220 :: f_221 :: f_222 :: f_223 :: f_224 :: f_225 :: f_226 :: f_227 :: f_228 :: f_229 :: f_230 :: f_231 :: f_232 :: f_233 :: f_234 :: f_235 :: f_236 :: f_237 :: f_238 :: f_239 :: f_240 :: f_241 :: f_242 :: f_243 :: f_244 :: f_245 :: f_246 :: f_247 :: f_248 :: f_249 :: f_250 :: f_251 :: f_252 :: f_253 :: f_254 :: f_255 :: f_256 :: f_257 :: f_258 :: f_259 :: f_260 :: f_261 :: f_262 :: f_263 :: f_264 :: f_265 :: f_266 :: f_267 :: f_268 :: f_269 :: f_270 :: f_271 :: f_272 :: f_273 :: f_274 :: f_275 :: f_276 :: f_277 :: f_278 :: f_279 :: f_280 :: f_281 :: f_282 :: f_283 :: f_284 :: f_285 :: f_286 :: f_287 :: f_288 :: f_289 :: f_290 :: f_291 :: f_292 :: f_293 :: f_294 :: f_295 :: f_296 :: f_297 :: f_298 :: f_299 :: f_300 :: f_301 :: f_302 :: f_303 :: f_304 :: f_305 :: f_306 :: f_307 :: f_308 :: f_309 :: f_310 :: f_311 :: f_312 :: f_313 :: f_314 :: f_315 :: f_316 :: f_317 :: f_318 :: f_319 :: f_320 :: f_321 :: f_322 :: f_323 :: f_324 :: f_325 :: f_326 :: f_327 :: f_328 :: f_329 :: f_330 :: f_331 :: f_332 :: f_333 :: f_334 :: f_335 :: f_336 :: f_337 :: f_338 :: f_339 :: f_340 :: f_341 :: f_342 :: f_343 :: f_344 :: f_345 :: f_346 :: f_347 :: f_348 :: f_349 :: f_350 :: f_351 :: f_352 :: f_353 :: f_354 :: f_355 :: f_356 :: f_357 :: f_358 :: f_359 :: f_360 :: f_361 :: f_362 :: f_363 :: []), []⟩ wc := by
 unfold postTop at *
 conv at hK => enter [a, w', 1, 2]; whnf
 conv => arg 2; whnf
 obtain ⟨⟨hN, hX, hLd⟩, hnr6, hv1, hlog, hb⟩ := hcut.out
 clear hcut
 have HSe := hide (fun (V : World) (hV : Below wc.heap.size wc V) => And.intro (hN.below hN.2.2 hV) (And.intro (hX.below hX.2.2 hV) (hLd.below hLd.2.2 hV)))
 have HLg := hide (fun (V : World) (hV : Below wc.heap.size wc V) => hlog.below (Nat.le_refl _) hV)
 have HSt := hide (fun (V : World) (hV : Below wc.heap.size wc V) (lo hi : Int) (hv : validB lo hi = true) => (Stamp_any (.slice va1 s1 vc1) (.slice none 0 0) (.slice nra nrl.length nrc) (.slice nwa nwl.length nwc) ⟨LO, S1, []⟩ ⟨ni, nt, nrl, nwl⟩ lo hi V ⟨hv1.below (Nat.le_refl _) hV, (OwnTx.nil V 0).ty.row⟩ HVL.out.1 (by simp) (by have := HVL.out.2; simp [nwr, evs]; omega) (hnr6.below (Nat.le_refl _) hV) hv).mono (R' := fun e w' => StampEnd LO e ∧ Below V.heap.size V w') fun _ _ h => h.end_)
 dsimp only [valL, valT] at HSt
 have hval := around_valid (a := now) (l := nlf) (r := nrt) hnow hnlf hnrt
 obtain ⟨lo, hlo⟩ : ∃ x, x = arLo now nlf := ⟨_, rfl⟩
 obtain ⟨hi', hhi'⟩ : ∃ x, x = arHi now nrt := ⟨_, rfl⟩
 have HAr := hide (fun (V : World) => Around_any now nlf nrt V hnow hnlf hnrt)
 rw [← hlo, ← hhi'] at HAr hval
 have HSs := hide (fun (V : World) (hV : Below wc.heap.size wc V) => HSt.out V hV lo hi' hval.1)
 have HB7 := hide hb
 clear hval hlo hhi' HSt hb hN hX hLd hlog hnr6 hv1
 obtain ⟨WS, hWS⟩ : ∃ V, V = wc := ⟨_, rfl⟩
 rw [← hWS] at HSe HLg HSs HB7 ⊢
 clear hWS
 go_cut [53, 54] from 330 to 344 (fun s53 s54 wx => ∃ (g : Nat) (x T : Int), s53 = .pointer (some ⟨g, 0, none⟩) ∧ s54 = .int .i64 x ∧ g < wx.heap.size ∧ wx.cell? ⟨g, 1, none⟩ = some (.int .i64 T) ∧ (x = 0 → LO < T) ∧ Below WS.heap.size WS wx)
 case first =>
   have hBq : Below WS.heap.size WS WS.drew := (Below.refl _ _).drew
   have zd : WS.drew.heap.size = WS.heap.size := rfl
   have zq : WS.heap.size ≤ WS.drew.heap.size := Nat.le_refl _
   have HS10 := hide (fun (V : World) (hV : Below WS.heap.size WS V) => by
    obtain ⟨x1, x2, x3⟩ := HSe.out V hV
    exact And.intro (x3.1 0 _ rfl) (And.intro (x3.1 1 _ rfl) (And.intro (x3.1 2 _ rfl) (And.intro (x1.1 0 _ rfl) (And.intro (x1.1 1 _ rfl) (And.intro (x1.1 2 _ rfl) (And.intro (x1.1 3 _ rfl) (And.intro (x1.1 5 _ rfl) (And.intro (x1.1 6 _ rfl) (x2.1 4 _ rfl))))))))))
   go_region_held3 (fun V => V.cell? ⟨BL, 0, none⟩ = some (.int .i64 LO) ∧ V.cell? ⟨BL, 1, none⟩ = some (.slice va1 s1 vc1) ∧ V.cell? ⟨BL, 2, none⟩ = some (.slice none 0 0) ∧ V.cell? ⟨w.heap.size + 1, 0, none⟩ = some (.int .i64 ni) ∧ V.cell? ⟨w.heap.size + 1, 1, none⟩ = some (.int .i64 nt) ∧ V.cell? ⟨w.heap.size + 1, 2, none⟩ = some (.slice nra nrl.length nrc) ∧ V.cell? ⟨w.heap.size + 1, 3, none⟩ = some (.slice nwa nwl.length nwc) ∧ V.cell? ⟨w.heap.size + 1, 5, none⟩ = some (.int .u16 nlf) ∧ V.cell? ⟨w.heap.size + 1, 6, none⟩ = some (.int .u16 nrt) ∧ V.cell? ⟨BC, 4, none⟩ = some (.int .i64 now)) (exact HS10.out _ (by ((with_reducible repeat' first | exact .refl _ _ | exact hBq | refine .alloc ?_ ?_ _ | refine .setCell ?_ ?_ _ | refine .drew ?_ | refine below_drewN ?_ _ | refine Below.trans ?_ (hBq.mono ?_)) <;> first | omega | simp <;> omega)))
    (first
     | (go_at_call 18; (with_reducible refine (HAr.out _).mono ?_); rintro e wq ⟨rfl, kq⟩; (first | (have m_ := mkLT kq; obtain ⟨mL, mT⟩ := m_) | (have m_ := mkLTD kq; obtain ⟨mL, mT⟩ := m_) | (have m_ := mkTL kq; obtain ⟨mL, mT⟩ := m_) | (have m_ := mkTLD kq; obtain ⟨mL, mT⟩ := m_) | (have mL := mkL kq) | (have mL := mkLD kq) | (have mT := mkT kq) | (have mT := mkTD kq) | skip); (try simp only [World.size_alloc, size_drewT] at mL); (try simp only [World.size_alloc, size_drewT] at mT); (first | have zmL := mL.2.2 | skip); (first | have zmT := mT.2.2 | skip); have t_ : Below WS.heap.size WS wq := (by ((with_reducible repeat' first | exact .refl _ _ | exact kq | exact hBq | refine .alloc ?_ ?_ _ | refine .setCell ?_ ?_ _ | refine .drew ?_ | refine below_drewN ?_ _ | refine Below.trans ?_ (kq.mono ?_) | refine Below.trans ?_ (hBq.mono ?_)) <;> first | omega | simp <;> omega)); clear hBq; have hBq := t_; clear t_; have zq := hBq.size; clear kq)
     | (go_at_call 17; (with_reducible refine (HSs.out _ (by ((with_reducible repeat' first | exact .refl _ _ | exact hBq | refine .alloc ?_ ?_ _ | refine .setCell ?_ ?_ _ | refine .drew ?_ | refine below_drewN ?_ _ | refine Below.trans ?_ (hBq.mono ?_)) <;> first | omega | simp <;> omega))).mono ?_); rintro e wq ⟨⟨a0, a1, n1, c1, a2, n2, c2, b0, b1, a3, n3, c3, a4, n4, c4, x, rfl, hxT⟩, kq⟩; (first | (have t_ := mL.below mL.2.2 (show Below _ _ wq from (by ((with_reducible repeat' first | exact .refl _ _ | exact kq | refine .alloc ?_ ?_ _ | refine .setCell ?_ ?_ _ | refine .drew ?_ | refine below_drewN ?_ _ | refine Below.trans ?_ (kq.mono ?_)) <;> first | omega | simp <;> omega))); clear mL; have mL := t_; clear t_) | skip); (first | (have t_ := mT.below mT.2.2 (show Below _ _ wq from (by ((with_reducible repeat' first | exact .refl _ _ | exact kq | refine .alloc ?_ ?_ _ | refine .setCell ?_ ?_ _ | refine .drew ?_ | refine below_drewN ?_ _ | refine Below.trans ?_ (kq.mono ?_)) <;> first | omega | simp <;> omega))); clear mT; have mT := t_; clear t_) | skip); (first | (have m_ := mkLT kq; obtain ⟨mL, mT⟩ := m_) | (have m_ := mkLTD kq; obtain ⟨mL, mT⟩ := m_) | (have m_ := mkTL kq; obtain ⟨mL, mT⟩ := m_) | (have m_ := mkTLD kq; obtain ⟨mL, mT⟩ := m_) | (have mL := mkL kq) | (have mL := mkLD kq) | (have mT := mkT kq) | (have mT := mkTD kq) | skip); (try simp only [World.size_alloc, size_drewT] at mL); (try simp only [World.size_alloc, size_drewT] at mT); (first | (have hne := ne_bx mL mT (by omega); obtain ⟨hne1, hne2⟩ := hne) | skip); (first | (have mL0 := mL.1 0 _ rfl; have mL1 := mL.1 1 _ rfl; have mL2 := mL.1 2 _ rfl; have mLf := mL.2.1; have mLz := mL.2.2) | skip); (first | (have mT0 := mT.1 0 _ rfl; have mT1 := mT.1 1 _ rfl; have mT2 := mT.1 2 _ rfl; have mT3 := mT.1 3 _ rfl; have mTf := mT.2.1; have mTz := mT.2.2) | skip); have t_ : Below WS.heap.size WS wq := (by ((with_reducible repeat' first | exact .refl _ _ | exact kq | exact hBq | refine .alloc ?_ ?_ _ | refine .setCell ?_ ?_ _ | refine .drew ?_ | refine below_drewN ?_ _ | refine Below.trans ?_ (kq.mono ?_) | refine Below.trans ?_ (hBq.mono ?_)) <;> first | omega | simp <;> omega)); clear hBq; have hBq := t_; clear t_; have zq := hBq.size; (first | have hbL := ge_bx (n := WS.heap.size) mL (by omega) | skip); (first | have hbT := ge_bx (n := WS.heap.size) mT (by omega) | skip); clear kq))
   all_goals go_wp2
   all_goals go_meet
   all_goals with_reducible first
    | exact ⟨_, _, _, rfl, rfl, end_LT mL mT hne1 hBq hbL hbT hxT⟩
    | exact ⟨_, _, _, rfl, rfl, end_TA mT hBq hbT hxT⟩
    | exact ⟨_, _, _, rfl, rfl, end_LA mL hBq hbL hxT⟩
    | exact ⟨_, _, _, rfl, rfl, end_AL hBq zq hxT⟩
    | exact ⟨_, _, _, rfl, rfl, end_TL hBq zq hxT⟩
 case rest =>
  clear HSs HAr HSe
  obtain ⟨g, x, T, rfl, rfl, hgz, hgc_, hxT, hB9⟩ := hcut
  have HBe := hide (fun (V : World) (hV : Below WS.heap.size WS V) => HBm.out.trans ((HB7.out.trans (hV.mono HB7.out.size)).mono HBm.out.size))
  by_cases hx : x = 0
  ·subst hx
   have hT := hxT rfl
   clear hxT
   go_wp2_with fail
   go_loopw [350, 13] (fun s350 s13 wx => ∃ (i : Nat), i ≤ nO ∧ s350 = .int .i64 i ∧ s13 = .bool true ∧ g < wx.heap.size ∧ wx.cell? ⟨g, 1, none⟩ = some (.int .i64 T) ∧ Below WS.heap.size WS wx) (fun s350 _ _ => nO - (intOf s350).toNat)
   case atStart => exact ⟨0, Nat.zero_le _, rfl, rfl, hgz, hgc_, hB9⟩
   case round =>
   clear hgz hgc_ hB9
   obtain ⟨i, hi, rfl, rfl, hgz, hgc_, hB9⟩ := hrel
   by_cases hlt : i < nO
   ·have hlt2 : i < O.length := by rw [← HNO.out]; exact hlt
    obtain ⟨b5, off5, cap5, rv5, wv5, hbv5, hlt5, x0, x1, x2, x3, hrd⟩ := TxR.at_ (HLg.out wr hB9) (i := i) hlt2
    cases hbv5
    have hts := HTop.out _ (txAt_mem hlt2)
    obtain ⟨ar, cr, rfl, -⟩ := id hrd.1
    obtain ⟨aw, cw, rfl, -⟩ := id hrd.2
    clear hrd hlt2
    generalize txAt O i = TT at x0 x1 x2 x3 hts
    obtain ⟨ti, tt, rl, wl⟩ := TT
    dsimp only at x0 x1 x2 x3 hts
    have d1 : decide (tt < T) = true := decide_eq_true (by omega)
    have hn12 : nO ≤ 12 := by rw [HNO.out]; exact hOl
    have I1 : (0 : Int) ≤ (i : Int) := by omega
    have I2 : (i : Int) < (nO : Int) := by omega
    obtain ⟨W3, hW3⟩ : ∃ V, V = wr.alloc (.cells #[.int .i64 ti, .int .i64 tt, .slice ar rl.length cr, .slice aw wl.length cw] 28) := ⟨_, rfl⟩
    have h3 : BxC W3 wr.heap.size [.int .i64 ti, .int .i64 tt, .slice ar rl.length cr, .slice aw wl.length cw] := by rw [hW3]; exact BxC.made wr _ _
    have hA : Below wr.heap.size wr W3 := by rw [hW3]; ((with_reducible repeat' first | exact .refl _ _ | refine .alloc ?_ ?_ _ | refine .setCell ?_ ?_ _ | refine .drew ?_ | refine below_drewN ?_ _) <;> first | omega | simp <;> omega)
    have hgz3 : g < W3.heap.size := Nat.lt_of_lt_of_le hgz hA.size
    have hgc3 := (hA.cell (p := ⟨g, 1, none⟩) hgz).trans hgc_
    have hB10 := hB9.trans (hA.mono hB9.size)
    go_upto_region 60 with fail
    rw [← hW3]
    clear hW3 x0 x1 x2 x3 hgc_
    have c1 := h3.1 1 _ rfl
    go_wp2_with fail
    go_roundw
    case rel => exact ⟨i + 1, by omega, by go_num, rfl, hgz3, hgc3, hB10⟩
    case measure => simp [intOf]; omega
   obtain rfl : i = nO := by omega
   go_wp2_with fail
   go_ret
   exact ⟨rfl, HBe.out _ hB9⟩
  ·have e1 : (x == 0) = false := by rw [beq_eq_false_iff_ne]; exact hx
   have e2 : decide (x = 0) = false := decide_eq_false hx
   clear hx hxT hgc_ hgz
   go_wp2_with fail
   go_ret
   exact ⟨rfl, HBe.out _ hB9⟩
end Go.Proofs.YthkoaecafmhlcaaGreat
