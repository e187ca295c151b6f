/- TopSurvives, walked in pieces: the part from tail 7 on. -/
import Derived.Test.YthkoaecafmhlcaaGreatTnC
namespace Go.Proofs.YthkoaecafmhlcaaGreat
open Go.RowKit
attribute [local go_sem ↓] run_max_mx run_min_mn
attribute [local simp] size_drewT
set_option maxRecDepth 1000000 in
set_option maxHeartbeats 16000000 in
theorem TopS_B2 {f_0 f_1 f_5 f_6 f_8 f_9 f_10 f_12 f_14 f_15 f_18 f_19 f_20 f_21 f_22 f_23 f_24 f_25 f_26 f_27 f_28 f_29 f_30 f_31 f_32 f_33 f_34 f_35 f_36 f_37 f_38 f_39 f_40 f_41 f_42 f_43 f_44 f_45 f_46 f_47 f_48 f_49 f_50 f_51 f_52 f_53 f_54 f_55 f_56 f_57 f_58 f_59 f_60 f_61 f_62 f_63 f_64 f_65 f_66 f_67 f_68 f_69 f_70 f_71 f_72 f_73 f_74 f_75 f_76 f_77 f_78 f_79 f_80 f_81 f_82 f_83 f_84 f_85 f_86 f_87 f_88 f_89 f_90 f_91 f_92 f_93 f_94 f_95 f_96 f_97 f_98 f_99 f_100 f_101 f_102 f_103 f_104 f_105 f_106 f_107 f_108 f_109 f_110 f_111 f_112 f_113 f_114 f_115 f_116 f_117 f_118 f_119 f_120 f_121 f_122 f_123 f_124 f_125 f_126 f_127 f_128 f_129 f_130 f_131 f_132 f_133 f_134 f_135 f_136 f_137 f_138 f_139 f_140 f_141 f_142 f_143 f_144 f_145 f_146 f_147 f_148 f_149 f_150 f_151 f_152 f_153 f_154 f_155 f_156 f_157 f_158 f_159 f_160 f_161 f_162 f_163 f_164 f_165 f_166 f_167 f_168 f_169 f_170 f_171 f_172 f_173 f_174 f_175 f_176 f_177 f_178 f_179 f_180 f_181 f_182 f_183 f_184 f_185 f_186 f_187 f_188 f_189 f_190 f_191 f_192 f_193 f_194 f_195 f_196 f_197 f_198 f_199 f_200 f_201 f_202 f_203 f_204 f_205 f_206 f_207 f_208 f_209 f_210 f_211 f_212 f_213 f_214 f_215 f_216 f_217 f_218 f_219 f_220 f_221 f_222 f_223 f_224 f_225 f_226 f_227 f_228 f_229 f_230 f_231 f_232 f_233 f_234 f_235 f_236 f_237 f_238 f_239 f_240 f_241 f_242 f_243 f_244 f_245 f_246 f_247 f_248 f_249 f_250 f_251 f_252 f_253 f_254 f_255 f_256 f_257 f_258 f_259 f_260 f_261 f_262 f_263 f_264 f_265 f_266 f_267 f_268 f_269 f_270 f_271 f_272 f_273 f_274 f_275 f_276 f_277 f_278 f_279 f_280 f_281 f_282 f_283 f_284 f_285 f_286 f_287 f_288 f_289 f_290 f_291 f_292 f_293 f_294 f_295 f_296 f_297 f_298 f_299 f_300 f_301 f_302 f_303 f_304 f_305 f_306 f_307 f_308 f_309 f_310 f_311 f_312 f_313 f_314 f_315 f_316 f_317 f_318 f_319 f_320 f_321 f_322 f_323 f_324 f_325 f_326 f_327 f_328 f_329 f_330 f_331 f_332 f_333 f_334 f_335 f_336 f_337 f_338 f_339 f_340 f_341 f_342 f_343 f_344 f_345 f_346 f_347 f_348 f_349 f_350 f_351 f_352 f_353 f_354 f_355 f_356 f_357 f_358 f_359 f_360 f_361 f_362 f_363 : Value} {ni nt now LT naf nlf nrt key which lost c0 c1 c2 : Int} {nlk : Bool} {nra nwa sa oa da : Option Addr} {nrc nwc sn sc on oc dc m base BC : Nat} {nrl : List (Int × Int)} {nwl : List Wr} {D : List Tx} {w wL : World} {gn gc : Nat} {ga : Option Addr} (hlost : 0 ≤ lost ∧ lost ≤ 255) (hkey : 1 ≤ key ∧ key ≤ 1000) (hwhich : 0 ≤ which ∧ which ≤ 255) (hLT : LT ≤ 60000000000) (hnow : 0 ≤ now ∧ now ≤ 60000000000) (hnlf : 0 ≤ nlf ∧ nlf ≤ 65535) (hnrt : 0 ≤ nrt ∧ nrt ≤ 65535) (HG : Hid (GoodD D)) (hDl12 : D.length ≤ 12) (HLen : Hid (on = (ldOf D m).opn.length ∧ sn = (ldOf D m).st.length ∧ LT = topTs D)) (hc0 : 0 ≤ c0 ∧ c0 ≤ 65535) (hc1 : 0 ≤ c1 ∧ c1 ≤ 65535) (hc2 : 0 ≤ c2 ∧ c2 ≤ 65535) (hzBC : BC < wL.heap.size) (HGn : Hid (gn = (logB D).length)) (HXr : Hid (∀ V : World, Below wL.heap.size wL V → BxC V w.heap.size [.int .u16 c0, .int .u16 c1, .int .u16 c2] ∧ BxC V (w.heap.size + 1) [.int .i64 ni, .int .i64 nt, .slice nra nrl.length nrc, .slice nwa nwl.length nwc, .int .u32 naf, .int .u16 nlf, .int .u16 nrt, .bool nlk] ∧ BxC V BC [.int .i64 LT, .slice sa sn sc, .slice oa on oc, .slice da D.length dc, .int .i64 now, .bool true] ∧ RunS V base D m (.slice sa sn sc) (.slice oa on oc) (.slice da D.length dc) ∧ TvRd V (.slice nra nrl.length nrc) (.slice nwa nwl.length nwc) ⟨ni, nt, nrl, nwl⟩)) (HLr : Hid (∀ V : World, Below wL.heap.size wL V → BRow V (.slice ga gn gc) (logB D))) (HBr : Hid (Below w.heap.size w wL)) {K : Act → World → Prop} (hK : ∀ a w', (seqTail 8 bodyTop).wp Tryz.prog (postTop w) a w' → K a w') : (seqHead (seqTail 7 bodyTop)).wp Tryz.prog (Exit.then K (postTop w)) ⟨List.toArray (f_0 :: f_1 :: .int .u8 lost :: .int .i64 key :: .int .u8 which :: f_5 :: f_6 :: .pointer (some ⟨w.heap.size, 0, none⟩) :: f_8 :: f_9 :: f_10 :: .pointer (some ⟨w.heap.size + 1, 0, none⟩) :: f_12 :: .bool true :: f_14 :: f_15 :: .pointer (some ⟨BC, 0, none⟩) :: .slice ga gn gc :: f_18 :: f_19 :: f_20 :: f_21 :: f_22 :: f_23 :: f_24 :: f_25 :: f_26 :: f_27 :: f_28 :: f_29 :: f_30 :: f_31 :: f_32 :: f_33 :: f_34 :: f_35 :: f_36 :: f_37 :: f_38 :: f_39 :: f_40 :: f_41 :: f_42 :: f_43 :: f_44 :: f_45 :: f_46 :: f_47 :: f_48 :: f_49 :: f_50 :: f_51 :: f_52 :: f_53 :: f_54 :: f_55 :: f_56 :: f_57 :: f_58 :: f_59 :: f_60 :: f_61 :: f_62 :: f_63 :: f_64 :: f_65 :: f_66 :: f_67 :: f_68 :: f_69 :: f_70 :: f_71 :: f_72 :: f_73 :: f_74 :: f_75 :: f_76 :: f_77 :: f_78 :: f_79 :: f_80 :: f_81 :: f_82 :: f_83 :: f_84 :: f_85 :: f_86 :: f_87 :: f_88 :: f_89 :: f_90 :: f_91 :: f_92 :: f_93 :: f_94 :: f_95 :: f_96 :: f_97 :: f_98 :: f_99 :: f_100 :: f_101 :: f_102 :: f_103 :: f_104 :: f_105 :: f_106 :: f_107 :: f_108 :: f_109 :: f_110 :: f_111 :: f_112 :: f_113 :: f_114 :: f_115 :: f_116 :: f_117 :: f_118 :: f_119 :: f_120 :: f_121 :: f_122 :: f_123 :: f_124 :: f_125 :: f_126 :: f_127 :: f_128 :: f_129 :: f_130 :: f_131 :: f_132 :: f_133 :: f_134 :: f_135 :: f_136 :: f_137 :: f_138 :: f_139 :: f_140 :: f_141 :: f_142 :: f_143 :: f_144 :: f_145 :: f_146 :: f_147 :: f_148 :: f_149 :: f_150 :: f_151 :: f_152 :: f_153 :: f_154 :: f_155 :: f_156 :: f_157 :: f_158 :: f_159 :: f_160 :: f_161 :: f_162 :: f_163 :: f_164 :: f_165 :: f_166 :: f_167 :: f_168 :: f_169 :: f_170 :: f_171 :: f_172 :: f_173 :: f_174 :: f_175 :: f_176 :: f_177 :: f_178 :: f_179 :: f_180 :: f_181 :: f_182 :: f_183 :: f_184 :: f_185 :: f_186 :: f_187 :: f_188 :: f_189 :: f_190 :: f_191 :: f_192 :: f_193 :: f_194 :: f_195 :: f_196 :: f_197 :: f_198 :: f_199 :: f_200 :: f_201 :: f_202 :: f_203 :: f_204 :: f_205 :: f_206 :: f_207 :: f_208 :: f_209 :: f_210 :: f_211 :: f_212 :: f_213 :: f_214 :: f_215 :: f_216 :: f_217 :: f_218 :: f_219 :: f_220 :: f_221 :: f_222 :: f_223 :: f_224 :: f_225 :: f_226 :: f_227 :: f_228 :: f_229 :: f_230 :: f_231 :: f_232 :: f_233 :: f_234 :: f_235 :: f_236 :: f_237 :: f_238 :: f_239 :: f_240 :: f_241 :: f_242 :: f_243 :: f_244 :: f_245 :: f_246 :: f_247 :: f_248 :: f_249 :: f_250 :: f_251 :: f_252 :: f_253 :: f_254 :: f_255 :: f_256 :: f_257 :: f_258 :: f_259 :: f_260 :: f_261 :: f_262 :: f_263 :: f_264 :: f_265 :: f_266 :: f_267 :: f_268 :: f_269 :: f_270 :: f_271 :: f_272 :: f_273 :: f_274 :: f_275 :: f_276 :: f_277 :: f_278 :: f_279 :: f_280 :: f_281 :: f_282 :: f_283 :: f_284 :: f_285 :: f_286 :: f_287 :: f_288 :: f_289 :: f_290 :: f_291 :: f_292 :: f_293 :: f_294 :: f_295 :: f_296 :: f_297 :: f_298 :: f_299 :: f_300 :: f_301 :: f_302 :: f_303 :: f_304 :: f_305 :: f_306 :: f_307 :: f_308 :: f_309 :: f_310 :: f_311 :: f_312 :: f_313 :: f_314 :: f_315 :: f_316 :: f_317 :: f_318 :: f_319 :: f_320 :: f_321 :: f_322 :: f_323 :: f_324 :: f_325 :: f_326 :: f_327 :: f_328 :: f_329 :: f_330 :: f_331 :: f_332 :: f_333 :: f_334 :: f_335 :: f_336 :: f_337 :: f_338 :: f_339 :: f_340 :: f_341 :: f_342 :: f_343 :: f_344 :: f_345 :: f_346 :: f_347 :: f_348 :: f_349 :: f_350 :: f_351 :: f_352 :: f_353 :: f_354 :: f_355 :: f_356 :: f_357 :: f_358 :: f_359 :: f_360 :: f_361 :: f_362 :: f_363 :: []), []⟩ wL := by
  unfold postTop at *
  conv at hK => enter [a, w', 1, 2]; whnf
  conv => arg 2; whnf
  go_upto_region 22 with fail
  obtain ⟨W4, hW4⟩ : ∃ V, V = wL.alloc (.cells #[.slice none 0 0, .slice none 0 0, .slice none 0 0] 47) := ⟨_, rfl⟩
  rw [← hW4]
  have k4 : Below wL.heap.size wL W4 := by rw [hW4]; ((with_reducible repeat' first | exact .refl _ _ | refine .alloc ?_ ?_ _ | refine .setCell ?_ ?_ _ | refine .drew ?_ | refine below_drewN ?_ _) <;> first | omega | simp <;> omega)
  have hP0 : BxC W4 wL.heap.size [.slice none 0 0, .slice none 0 0, .slice none 0 0] := by rw [hW4]; exact BxC.made wL _ _
  have hgc : gn ≤ gc := by
    obtain ⟨a_, c_, e_, h1_, -⟩ := (HLr.out wL (.refl _ _)).len
    simp only [Value.slice.injEq] at e_
    omega
  clear hW4
  obtain ⟨hC, -, -, hR0, -⟩ := HXr.out W4 k4
  have hdc : D.length ≤ dc := by
    obtain ⟨a_, c_, e_, h1_, -⟩ := hR0.dn.ty.row.len
    simp only [Value.slice.injEq] at e_
    omega
  clear hR0
  have chC_0 := hC.1 0 _ rfl; have chC_1 := hC.1 1 _ rfl; have chC_2 := hC.1 2 _ rfl; have fhC := hC.2.1; have zhC := hC.2.2
  obtain ⟨B2, hB2e⟩ : ∃ b, b = wL.heap.size := ⟨_, rfl⟩
  rw [← hB2e] at hP0 ⊢
  have z4 := k4.size
  have hB2l : B2 < W4.heap.size := hP0.2.2
  have hBC2 : BC < B2 := by omega
  go_wp2_with fail
  clear chC_0 chC_1 chC_2 fhC zhC hC
  have hB24 : Below B2 wL W4 := by rw [hB2e]; exact k4
  have HB2e := hide hB2e
  clear hB2e k4
  go_loopw [107, 22] (fun s107 s22 wx => ∃ (js : List Nat) (a : Option Addr) (n c : Nat), js.length ≤ 3 ∧ s107 = .int .i64 js.length ∧ s22 = .slice a n c ∧ Hid (∀ j, j ∈ js → j ≤ D.length) ∧ Hid (OwnCp wx (B2 + 1) (.slice a n c) (cps D js)) ∧ Hid (BxC wx B2 (prt (fun j => .slice ga (logB (D.take j)).length gc) js)) ∧ Below B2 wL wx) (fun s107 _ _ => 3 - (intOf s107).toNat)
  case atStart => exact ⟨[], none, 0, 0, by simp, rfl, rfl, hide (fun j hj => by simp at hj), hide (OwnCp.nil _ _), hide hP0, hB24⟩
  case round =>
  clear hP0 hB24 hB2l z4
  obtain ⟨js, ca, cn, cc, hj3, rfl, rfl, HJ, HC, HP, hB⟩ := hrel
  have hbP := HP.out.2.2
  by_cases hlt : js.length < 3
  · have hLw := HLr.out wr (by rw [← HB2e.out]; exact hB)
    obtain ⟨-, -, hXc, hRr, -⟩ := HXr.out wr (by rw [← HB2e.out]; exact hB)
    obtain ⟨kx, hkx⟩ : ∃ k, k = js.length := ⟨_, rfl⟩
    rw [← hkx] at hlt
    have hix := fun (W : World) => index_a3 c0 c1 c2 kx hlt W
    obtain ⟨ck, hck⟩ : ∃ c, c = [c0, c1, c2].getD kx 0 := ⟨_, rfl⟩
    have hckb : 0 ≤ ck ∧ ck ≤ 65535 := by
      have h_ : kx = 0 ∨ kx = 1 ∨ kx = 2 := by omega
      rcases h_ with h_ | h_ | h_ <;> rw [h_] at hck <;> rw [hck]
      · exact hc0
      · exact hc1
      · exact hc2
    rw [← hck] at hix
    have hmn := mn_spec ck (gn : Int)
    obtain ⟨kk, hkk⟩ : ∃ k : Nat, (k : Int) = mn ck (gn : Int) := ⟨(mn ck (gn : Int)).toNat, by omega⟩
    have hkg : kk ≤ gn := by omega
    have w1_ : IntKind.i64.wrap ck = ck := by rw [IntKind.wrap_i64]; omega
    have w2_ : mn ck (gn : Int) = (kk : Int) := hkk.symm
    obtain ⟨j, last, mm, hjD, hcut, hokl, hmml⟩ := cut_log D kk (fun t ht => (HG.out.2 t ht).1) (by rw [← HGn.out]; omega)
    have hgt : GoodD (D.take j) := HG.out.sub (List.take_sublist _ _)
    have hML := logB_len D (fun t ht => (HG.out.2 t ht).1)
    rw [← HGn.out] at hML
    have hlen : (logB (D.take j) ++ (frm last).take mm).length = kk := by rw [← hcut, List.length_take, ← HGn.out]; omega
    have hLd := fun (V : World) (hV : Below wr.heap.size wr V) => Load_any (.slice ga kk gc) (D.take j) last mm V (by rw [← hcut]; exact (hLw.take kk (by rw [← HGn.out]; omega)).below (Nat.le_refl _) hV) hgt (by rw [List.length_take]; omega) hokl hmml (by omega)
    obtain ⟨sz, hsz⟩ : ∃ s, s = (logB (D.take j)).length := ⟨_, rfl⟩
    rw [← hsz] at hLd
    have hszk : sz ≤ kk := by rw [List.length_append] at hlen; omega
    have HLd := hide hLd
    have HSz := hide hsz
    have HDj := hide hjD
    have hjl : (D.take j).length = j := by rw [List.length_take]; omega
    have d1 : decide ((sz : Int) < 0) = false := decide_eq_false (by omega)
    have d2 : decide ((kk : Int) < (sz : Int)) = false := decide_eq_false (by omega)
    have d3 : decide ((D.length : Int) < (j : Int)) = false := decide_eq_false (by omega)
    have I1 : (0 : Int) ≤ (kk : Int) := by omega
    have I2 : (kk : Int) ≤ (gc : Int) := by omega
    have I3 : (kk : Int) ≤ (gn : Int) := by omega
    have I4 : (0 : Int) ≤ (kx : Int) := by omega
    have I5 : (kx : Int) < 3 := by omega
    have I6 : (0 : Int) ≤ (j : Int) := by omega
    have I7 : (j : Int) ≤ (dc : Int) := by omega
    have I8 : (j : Int) ≤ (D.length : Int) := by omega
    have I9 : (sz : Int) ≤ (gc : Int) := by omega
    have I10 : (0 : Int) ≤ (sz : Int) := by omega
    have I11 : (sz : Int) ≤ (gn : Int) := by omega
    have HKx := hide hkx
    have hSm := fun (V : World) (hV : Below wr.heap.size wr V) (tv : Value) (ht : TxR V tv (D.take j)) => SameTxs_any tv (.slice da j dc) (D.take j) V ht (by
      have h_ := (hRr.below hV).dn.ty.row.take j hjD
      exact h_) (fun i hi => ⟨(hgt.2 _ (txAt_mem hi)).1.2.2.2.2.1, (hgt.2 _ (txAt_mem hi)).1.2.2.2.2.2⟩) (by omega)
    have HSm := hide hSm
    have hzr := hB.size
    have hXb : BC < wr.heap.size := by omega
    have HBw := hide hB
    rw [← hkx]
    have chXc_0 := hXc.1 0 _ rfl; have chXc_1 := hXc.1 1 _ rfl; have chXc_2 := hXc.1 2 _ rfl; have chXc_3 := hXc.1 3 _ rfl; have chXc_4 := hXc.1 4 _ rfl; have chXc_5 := hXc.1 5 _ rfl; have fhXc := hXc.2.1; have zhXc := hXc.2.2
    clear hkx hck hmn hkk hcut hlen hLd hsz hgt hML hSm hRr hLw hokl hmml hB
    go_upto_region 29 with (first
      | (go_at_call 9; (with_reducible refine (HLd.out _ (.refl _ _)).mono ?_); rintro e w5 ⟨⟨tv, rfl, ho5⟩, k5⟩; have htr := ho5.ty.row; obtain ⟨ta, tc, htv, -, -⟩ := htr.len; rw [hjl] at htv; subst htv; have z5 := k5.size; have t_ := hXc.below hXc.2.2 k5; clear chXc_0 chXc_1 chXc_2 chXc_3 chXc_4 chXc_5 fhXc zhXc hXc; have hXc := t_; clear t_; have chXc_0 := hXc.1 0 _ rfl; have chXc_1 := hXc.1 1 _ rfl; have chXc_2 := hXc.1 2 _ rfl; have chXc_3 := hXc.1 3 _ rfl; have chXc_4 := hXc.1 4 _ rfl; have chXc_5 := hXc.1 5 _ rfl; have fhXc := hXc.2.1; have zhXc := hXc.2.2; have HSm5 := hide (HSm.out w5 k5 _ htr); clear htr)
      | (go_at_call 10; (with_reducible refine HSm5.out.mono ?_); rintro e w6 ⟨rfl, k6⟩; have z6 := k6.size))
    have zXc := hXc.2.2
    clear chXc_0 chXc_1 chXc_2 chXc_3 chXc_4 chXc_5 fhXc zhXc hXc
    have hB5 : Below wr.heap.size wr w6 := k5.trans (k6.mono z5)
    have hC6 := HC.out.below hB5
    have hP6 := HP.out.below hbP hB5
    have hT6 := ho5.below (Nat.le_refl _) k6
    have hBw6 : Below B2 wL w6 := HBw.out.trans (hB5.mono (by omega))
    obtain ⟨xs, hx1, hx2, hx3⟩ := hC6
    obtain ⟨i0, hi0, hz0, hz1, hz2⟩ := info_parts infoCp
    obtain ⟨hca, hcn⟩ : cn = xs.length ∧ xs.length = kx := by
      obtain ⟨a_, c_, e_⟩ : ∃ a c, Value.slice ca cn cc = .slice a xs.length c := ownsRow_val hx2
      simp only [Value.slice.injEq] at e_
      refine ⟨e_.2.1, ?_⟩
      rw [← List.length_map (f := (·.c)), hx1, cps_length, HKx.out]
    have hxl2 := hca.trans hcn
    subst hxl2
    have HX1 := hide hx1
    have HX2 := hide hx2
    have HX3 := hide hx3
    have HXL := hide hcn
    have Hlow := hide (World.ownsRow.lt hx2)
    have HT6 := hide hT6
    have HP6 := hide hP6
    have hpk : (prt (fun j => .slice ga (logB (D.take j)).length gc) js)[cn]? = some (.slice none 0 0) := prt_none _ js (by rw [HKx.out]; exact Nat.le_refl _) (by omega)
    have hpy := hP6.1 cn _ hpk
    have hpf := hP6.2.1
    have hpz := hP6.2.2
    have HPk := hide hpk
    have hz6 : wr.heap.size ≤ w6.heap.size := hB5.size
    have zd : w6.drew.heap.size = w6.heap.size := rfl
    have hb26 : B2 + 1 ≤ w6.heap.size := by omega
    have HBw6 := hide hBw6
    have w9_ : IntKind.i64.wrap ((cn : Int) + 1) = (cn : Int) + 1 := by rw [IntKind.wrap_i64]; omega
    clear hx1 hx2 hx3 hcn hca hT6 hP6 hpk hBw6 HSm5 HSm HLd ho5 k5 k6 hB5 HC HP HBw
    go_region_law (refine step_append_src rfl (.tmp 154) (.tmp 159) 46 rfl (B2 + 1) 52 i0 (.agg #[.int .i64 0, .slice none 0 0]) 2 32 Tryz.underlying46 hi0 hz0 hz1 hz2 rfl (by decide) (.slice ca cn cc) cn (xs.flatMap encC) (by simp [Act.eval]) (World.ownsRow.alloc (ownsRow_below (by have h_ := HX2.out; unfold Owns at h_; rw [HXL.out] at h_; exact h_) (Below.refl _ _).drew) _) (.slice (some ⟨w6.heap.size, 0, none⟩) 1 1) 1 (encC ⟨.slice ta j tc, ⟨(cn : Int) + 1, D.take j⟩⟩) (by simp [Act.eval]) ⟨_, _, rfl, rfl, (fun h => by cases h), fun ad h => by cases h; exact cells_new w6.drew _ _⟩ (by simp [encC, Value.oneCell']) (by unfold maxLen; omega) (by omega) (by simp; omega) ?_
                   intro v7 w7 hown7 hg7 hnew7
                   obtain ⟨a7, c7, rfl⟩ := ownsRow_val hown7
                   have hP7 := ((HP6.out.same (W := w6.drew) (Nat.le_refl _) rfl).alloc (.cells #[.int .i64 ((cn : Int) + 1), .slice ta j tc] 52)).grown hg7 (fun e => by have := (Hlow.out _ e.symm).1; omega)
                   have hB7 : Below B2 wL w7 := Below.grown (HBw6.out.drew.alloc (by simp; omega) _) hg7 (by simp; omega) (fun r e => by have := (Hlow.out r e).1; omega)
                   have hC7 := OwnCp.push (x := ⟨.slice ta j tc, ⟨(cn : Int) + 1, D.take j⟩⟩) (Owns.below HX2.out (Nat.le_refl _) (Below.refl _ _).drew) (fun y hy => (HX3.out y hy).below (Nat.le_refl _) (Below.refl _ _).drew) ((HT6.out.below (Nat.le_refl _) (Below.refl _ _).drew).mono hbP) hg7 (by rw [HXL.out]; exact hown7)
                   have HH7 := hide (And.intro hP7 (And.intro hB7 hC7))
                   have y0 := hP7.1 cn _ HPk.out
                   have yf := hP7.2.1
                   have yz := hP7.2.2
                   clear hown7 hg7 hnew7 hP7 hB7 hC7)
    obtain ⟨hP7, hB7, hC7⟩ := HH7.out
    obtain ⟨V, hV⟩ : ∃ V, V = w7.setCell ⟨B2, cn, none⟩ (.slice ga sz gc) := ⟨_, rfl⟩
    have qP : BxC V B2 (prt (fun j => .slice ga (logB (D.take j)).length gc) (js ++ [j])) := by
      have h_ := hP7.set cn (.slice ga sz gc) (by rw [prt_length]; omega)
      rw [hV, ← prt_set (fun j => .slice ga (logB (D.take j)).length gc) js j (by rw [← HKx.out]; omega), ← HKx.out, ← HSz.out]
      exact h_
    have qC : OwnCp V (B2 + 1) (.slice a7 (cn + 1) c7) (cps D (js ++ [j])) := by
      have h_ := hC7.set (p := ⟨B2, cn, none⟩) (Nat.lt_succ_self _) (.slice ga sz gc)
      rw [hV, cps_snoc, ← HKx.out, ← HX1.out]
      exact h_
    have qB : Below B2 wL V := by rw [hV]; exact hB7.setCell (p := ⟨B2, cn, none⟩) (Nat.le_refl _) (.slice ga sz gc)
    rw [← hV]
    clear hV hP7 hB7 hC7 HH7 y0 yf yz
    go_wp2_with fail
    go_roundw
    case rel => exact ⟨js ++ [j], a7, _, c7, by rw [List.length_append, ← HKx.out]; simp; omega, by rw [List.length_append, ← HKx.out]; go_num, rfl, hide (fun j' hj' => by
        rcases List.mem_append.1 hj' with h_ | h_
        · exact HJ.out j' h_
        · rw [List.mem_singleton] at h_
          rw [h_]
          exact HDj.out), hide qC, hide qP, qB⟩
    case measure => simp [intOf]; omega
  obtain hjs3 : js.length = 3 := by omega
  have HJ3 := hide hjs3
  have hrow := HC.out.row
  have hcn3 : cn = 3 := by
    obtain ⟨a_, c_, e_2, -⟩ := hrow.len
    rw [cps_length, hjs3] at e_2
    simp only [Value.slice.injEq] at e_2
    exact e_2.2.1
  have HRow := hide (fun (V : World) (hV : Below wr.heap.size wr V) => hrow.below (Nat.le_refl _) hV)
  have HPr := hide (fun (V : World) (hV : Below wr.heap.size wr V) => HP.out.below HP.out.2.2 hV)
  have HXm := hide (fun (V : World) (hV : Below wr.heap.size wr V) => HXr.out V (by rw [← HB2e.out]; exact hB.trans (hV.mono (Nat.le_of_lt HP.out.2.2))))
  have HLm := hide (fun (V : World) (hV : Below wr.heap.size wr V) => HLr.out V (by rw [← HB2e.out]; exact hB.trans (hV.mono (Nat.le_of_lt HP.out.2.2))))
  have HBm := hide (HBr.out.trans ((show Below wL.heap.size wL wr by rw [← HB2e.out]; exact hB).mono HBr.out.size))
  subst hcn3
  clear hB HC HP HXr HLr HBr hlt hj3 hrow
  go_upto_region 31 with fail
  refine TopS_C hlost hkey hwhich hLT hnow hnlf hnrt HG hDl12 HLen HGn HJ3 HJ HXm HRow HPr HLm HBm ?_
  intro a_ w_ h_
  go_step
  exact h_
end Go.Proofs.YthkoaecafmhlcaaGreat
