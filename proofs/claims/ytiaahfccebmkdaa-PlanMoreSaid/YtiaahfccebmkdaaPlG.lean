/- Package plan: the iterator over all offers, walked. -/
import Derived.Test.YtiaahfccebmkdaaPlF
import Derived.Test.YtiaahfccebmkdaaWdG
namespace Go.Proofs.Ytiaahfccebmkdaa
open Go.RowKit Go.Shelf
attribute [local go_sem] Oper.semAt_some

/-- What the iterator vouches of an offer: its row lies there, apart from the loop's own variables, and its width is right. -/
def OfG (s : Si) (b1 b2 B : Nat) (x : Value × Of) (W : World) : Prop :=
  IsRow W x.1 x.2.use ∧ (∀ q, x.1.ownBlock = some q → (q ≠ b1 ∧ q ≠ b2) ∧ B ≤ q) ∧ rgB s x.2.use x.2.ev = true ∧ x.2.wd = wdt s x.2.use x.2.ev
def ofEnc (x : Value × Of) : Array Value := #[.agg #[x.1, .int .i64 x.2.ev, .int .i64 x.2.wd]]
theorem bits_one (m : Nat) (i : Nat) (hm : m < 9223372036854775808) : bits BinOp.and IntKind.i64 ((m : Int) / 2 ^ i) 1 = ((m / 2 ^ i % 2 : Nat) : Int) := by
  have e : (m : Int) / 2 ^ i = ((m / 2 ^ i : Nat) : Int) := by push_cast; rfl
  rw [e]
  have hd : m / 2 ^ i < 9223372036854775808 := Nat.lt_of_le_of_lt (Nat.div_le_self _ _) hm
  generalize m / 2 ^ i = a at *
  have h1 : (BitVec.ofInt 64 (a : Int)).toNat = a := by
    rw [BitVec.ofInt_natCast, BitVec.toNat_ofNat]; exact Nat.mod_eq_of_lt (by omega)
  show IntKind.i64.wrap ((BitVec.ofInt 64 (a : Int) &&& BitVec.ofInt 64 (1 : Int)).toNat : Int) = _
  rw [BitVec.toNat_and, h1, show (BitVec.ofInt 64 (1 : Int)).toNat = 1 from rfl, Nat.and_one_is_mod]
  exact IntWalk.i64_in _ (by omega)
set_option maxRecDepth 100000 in
set_option maxHeartbeats 2000000 in
theorem offers_in (n : Nat) (hn : 2 ≤ n) (l Bs Bp bo bf B : Nat) (r f lo tm : Int) (pv : Value) (ps : List Pr) (v : Value) (pl : List Int) (w W : World) (hp : PrRow w pv ps) (hv : IsRow w v pl) (hl : ps.length ≤ 10) (hpl : pl.length ≤ 10)
    (hA : Below w.heap.size w W) (ho : w.heap.size ≤ bo) (hf : w.heap.size ≤ bf) (hBW : B ≤ W.heap.size) (hoW : bo < W.heap.size) (hfW : bf < W.heap.size) (hs1 : Bs ≠ bo) (hs2 : Bs ≠ bf) (hp1 : Bp ≠ bo) (hp2 : Bp ≠ bf)
    (hS : W.cell? ⟨Bs, 0, none⟩ = some (.int .i64 r) ∧ W.cell? ⟨Bs, 1, none⟩ = some (.int .i64 f) ∧ W.cell? ⟨Bs, 2, none⟩ = some (.int .i64 lo) ∧ W.cell? ⟨Bs, 3, none⟩ = some (.int .i64 tm) ∧ W.cell? ⟨Bs, 4, none⟩ = some pv) (hP : W.cell? ⟨Bp, 0, none⟩ = some v)
    (J : List (Value × Of) → World → Prop) (hJ : AbidesFrom W.heap.size J)
    (hY : ∀ pre x W1, J pre W1 → OfG ⟨r, f, lo, tm, ps⟩ bo bf B x W1 → YieldAt Fence.wide (n - 1) Try.prog l (ofEnc x) W1 fun e W' => e = .returned (.bool true) ∧ J (pre ++ [x]) W' ∧ KeepC bo bf W1 W')
    (h0 : J [] W) :
    CallsIn Fence.wide n Try.prog 65 #[.func (.yield l) #[] #[], .pointer (some ⟨Bs, 0, none⟩), .pointer (some ⟨Bp, 0, none⟩)] W fun e W' => (∃ v, e = .returned v) ∧ ∃ xs, xs.map (·.2) = ofL ⟨r, f, lo, tm, ps⟩ pl ∧ J xs W' := by
  have hn1 : 1 ≤ n := by omega
  have hR : ∀ V, KeepC bo bf W V → (V.cell? ⟨Bs, 0, none⟩ = some (.int .i64 r) ∧ V.cell? ⟨Bs, 1, none⟩ = some (.int .i64 f) ∧ V.cell? ⟨Bs, 2, none⟩ = some (.int .i64 lo) ∧ V.cell? ⟨Bs, 3, none⟩ = some (.int .i64 tm) ∧ V.cell? ⟨Bs, 4, none⟩ = some pv ∧ V.cell? ⟨Bp, 0, none⟩ = some v) ∧ PrRow V pv ps ∧ IsRow V v pl ∧ W.heap.size ≤ V.heap.size :=
    fun V h => ⟨⟨h.cell hS.1 hs1 hs2, h.cell hS.2.1 hs1 hs2, h.cell hS.2.2.1 hs1 hs2, h.cell hS.2.2.2.1 hs1 hs2, h.cell hS.2.2.2.2 hs1 hs2, h.cell hP hp1 hp2⟩, prrow_keepC0 hp hA ho hf h, isrow_keepC0 hv hA ho hf h, h.1⟩
  have HR := hide hR
  obtain ⟨pa, pc, rfl, -, -⟩ := hp.len
  obtain ⟨va, vc, rfl, -, -⟩ := id hv
  clear hR hS hP hp hv
  have h2l : 2 ^ ps.length ≤ 1024 := by
    have := Nat.pow_le_pow_right (n := 2) (by omega) hl
    omega
  obtain ⟨N, hN⟩ : ∃ N, N = 2 ^ ps.length := ⟨_, rfl⟩
  have hL : ofL ⟨r, f, lo, tm, ps⟩ pl = ofTo ⟨r, f, lo, tm, ps⟩ pl N := by rw [hN]; rfl
  rw [hL]
  have hsh : (1 : Int) * 2 ^ ps.length = N := by rw [hN]; simp
  rw [← hN] at h2l
  have HN := hide hN
  clear hL hN
  obtain ⟨i0, hi, hz0, hz1, hz2⟩ := info_parts infoIs
  refine callsIn_of_wp Try.func65 rfl trivial ?_ rfl
  simp only [Try.ntmps65, List.size_toArray, List.length_cons, List.length_nil, Nat.reduceAdd, Nat.reduceSub, Array.replicate_succ, Array.replicate_zero, List.push_toArray, List.append_toArray, List.nil_append, List.cons_append]
  obtain ⟨⟨a0, a1, a2, a3, a4, a5⟩, -, -, -⟩ := HR.out W (KeepC.refl _ _ _)
  gi_wp2
  clear a0 a1 a2 a3 a4 a5
  gi_loopw [16] (fun s16 wr => ∃ (m : Nat) (pre : List (Value × Of)), m ≤ N ∧ s16 = .int .i64 m ∧ Hid (pre.map (·.2) = ofTo ⟨r, f, lo, tm, ps⟩ pl m) ∧ J pre wr ∧ KeepC bo bf W wr) (fun s16 _ => N - (intOf s16).toNat)
  case atStart => exact ⟨0, [], Nat.zero_le _, rfl, hide rfl, h0, KeepC.refl _ _ _⟩
  case round =>
    obtain ⟨m, pre, hm, rfl, Hp, hJr, hK⟩ := hrel
    by_cases hlt : m < N
    · obtain ⟨⟨a0, a1, a2, a3, a4, a5⟩, -, -, az⟩ := HR.out wr hK
      gi_wp2
      clear a0 a1 a2 a3 a4 a5
      obtain ⟨wo, hwo⟩ : ∃ wo : World, wo = wr := ⟨_, rfl⟩
      subst hwo
      gi_loopw [5, 22] (fun s5 s22 wi => ∃ k : Nat, k ≤ ps.length ∧ s22 = .int .i64 k ∧ OwnIs wi wo.heap.size s5 (mkL m k) ∧ Below wo.heap.size wo wi) (fun _ s22 _ => ps.length - (intOf s22).toNat)
      case atStart => exact ⟨0, Nat.zero_le _, rfl, OwnIs.nil _ _, Below.refl _ _⟩
      case round =>
        obtain ⟨k, hk, rfl, hown, hB⟩ := hrel
        obtain ⟨oa, ocap, hov, q1, q2⟩ := hown.val
        have hlen := mkL_len m k
        have hlow := World.ownsRow.lt hown
        have hz := hB.size
        have hmk : mkL m (k + 1) = if m / 2 ^ k % 2 = 1 then mkL m k ++ [(k : Int)] else mkL m k := rfl
        have Hmk := hide hmk
        clear hmk
        by_cases hlk : k < ps.length
        · have hb := bits_one m k (by omega)
          have hmin : min k 64 = k := by omega
          have I1 : (0 : Int) ≤ (k : Int) := by omega
          have hown' := hown
          unfold OwnIs at hown'
          subst hov
          by_cases hbit : m / 2 ^ k % 2 = 1
          · rw [hbit] at hb
            have Hbit := hide hbit
            clear hbit
            gi_wp2_with (gi_at_builtin; refine wpListIn_append_own _ rfl _ _ 25 rfl wo.heap.size 3 i0 (.int .i64 0) 1 8 Try.underlying25 hi hz0 hz1 hz2 rfl (by decide) _ (mkL m k).length (encI (mkL m k)) rfl (World.ownsRow.alloc hown' _) ⟨wr.heap.size, 0, none⟩ 1 1 [.int .i64 (k : Int)] rfl rfl (cells_new wr [.int .i64 (k : Int)] _) (by simp [Value.oneCell']) (by unfold maxLen; omega) (by omega) (by simp; omega) ?_; intro v4 w4 hown4 hg4 _; obtain ⟨a4, cap4, rfl⟩ := ownsRow_val hown4)
            go_roundw
            case rel => exact ⟨k + 1, by omega, by go_num, by rw [Hmk.out, if_pos Hbit.out]; exact OwnIs.app hown4, (hB.alloc hz _).grown hg4 (by simp; omega) (fun r h => (hlow r h).1)⟩
            case measure => simp [intOf]; omega
          · have hb0 : m / 2 ^ k % 2 = 0 := by omega
            rw [hb0] at hb
            have Hbit := hide hbit
            clear hbit hb0
            gi_wp2
            go_roundw
            case rel => exact ⟨k + 1, by omega, by go_num, by rw [Hmk.out, if_neg Hbit.out]; exact hown, hB⟩
            case measure => simp [intOf]; omega
        · obtain rfl : k = ps.length := by omega
          have hgr : wo.grownBy wr none := grown_of_below hB
          have hKr : KeepC bo bf W wr := hK.trans (KeepC.of_below hB)
          have hJr2 := hJ _ _ _ none hJr hgr (fun r h => by cases h)
          have hrow := hown.row
          have hblk : ∀ q, (Value.slice oa (mkL m ps.length).length ocap).ownBlock = some q → (q ≠ bo ∧ q ≠ bf) ∧ B ≤ q := fun q hq => by
            have := (hlow q (by rw [hov]; exact hq)).1
            refine ⟨⟨?_, ?_⟩, ?_⟩ <;> omega
          subst hov
          clear hown hlow
          obtain ⟨⟨a0, a1, a2, a3, a4, a5⟩, -, -, az2⟩ := HR.out wr hKr
          have HJr := hide hJr2
          have HKr := hide hKr
          have Hrow := hide hrow
          have Hblk := hide hblk
          generalize hU : mkL m ps.length = U at *
          have HU := hide hU
          clear hJr2 hKr hrow hblk hU hJr hK hgr hB
          gi_wp2
          clear a0 a1 a2 a3 a4 a5
          obtain ⟨wu, hwu⟩ : ∃ wu : World, wu = wr := ⟨_, rfl⟩
          subst hwu
          gi_loopw [37] (fun s37 wp => ∃ (j : Nat) (pr : List (Value × Of)), j ≤ pl.length ∧ s37 = .int .i64 j ∧ Hid (pr.map (·.2) = ofTo ⟨r, f, lo, tm, ps⟩ pl m ++ perTo ⟨r, f, lo, tm, ps⟩ U pl j) ∧ J pr wp ∧ KeepC bo bf W wp ∧ IsRow wp (.slice oa U.length ocap) U) (fun s37 _ => pl.length - (intOf s37).toNat)
          case atStart => exact ⟨0, pre, Nat.zero_le _, rfl, hide (by rw [Hp.out]; simp [perTo]), HJr.out, HKr.out, Hrow.out⟩
          case round =>
            obtain ⟨j, pr, hj, rfl, Hq, hJq, hKq, hrq⟩ := hrel
            by_cases hlj : j < pl.length
            · obtain ⟨⟨a0, a1, a2, a3, a4, a5⟩, g1, g2, az3⟩ := HR.out wr hKq
              have g2' := g2
              obtain ⟨va', vc', hve, -, -, g3⟩ := g2
              obtain ⟨rfl, -, rfl⟩ : va = va' ∧ True ∧ vc = vc' := by cases hve; exact ⟨rfl, trivial, rfl⟩
              obtain ⟨b, off, rfl, g4, g5⟩ := g3 j hlj
              have I1 : (0 : Int) ≤ (j : Int) := by omega
              have I2 : (j : Int) < (pl.length : Int) := by omega
              have hpe : perTo ⟨r, f, lo, tm, ps⟩ U pl (j + 1) = if rgB ⟨r, f, lo, tm, ps⟩ U (iAt pl j) = true then perTo ⟨r, f, lo, tm, ps⟩ U pl j ++ [⟨U, iAt pl j, wdt ⟨r, f, lo, tm, ps⟩ U (iAt pl j)⟩] else perTo ⟨r, f, lo, tm, ps⟩ U pl j := rfl
              have Hpe := hide hpe
              clear hve g3 hpe
              generalize iAt pl j = ev at *
              have hwE : wdEr ⟨r, f, lo, tm, ps⟩ U ev = if rgB ⟨r, f, lo, tm, ps⟩ U ev = true then 0 else 1 := by
                unfold wdEr; cases rgB ⟨r, f, lo, tm, ps⟩ U ev <;> rfl
              have hw := fun V (h : Below wr.heap.size wr V) => wdWidthS_any r f lo tm _ ps _ U ev V (g1.below (Nat.le_refl _) h) (hrq.below (Nat.le_refl _) h)
              have hwd : ∃ x, wdt ⟨r, f, lo, tm, ps⟩ U ev = x := ⟨_, rfl⟩
              obtain ⟨wd, hwd⟩ := hwd
              rw [hwd] at Hpe hw
              have Hwd := hide hwd
              have Hw := hide hw
              clear hwd hw g1 g2'
              have hBs := World.block_lt_of_cell? _ _ a0
              simp only at hBs
              have ho := fun o => World.cell?_alloc_lt wr (.cells #[.slice oa U.length ocap, .int .i64 ev] 29) ⟨Bs, o, none⟩ hBs
              have a0' := (ho 0).trans a0
              have a1' := (ho 1).trans a1
              have a2' := (ho 2).trans a2
              have a3' := (ho 3).trans a3
              have a4' := (ho 4).trans a4
              clear ho a0 a1 a2 a3 a4 a5
              cases hG : rgB ⟨r, f, lo, tm, ps⟩ U ev with
              | true =>
                rw [hG, if_pos rfl] at hwE
                rw [hwE] at Hw
                have HG := hide hG
                have HrQ := hide hrq
                clear hwE hG hrq
                gi_wp2_with fail
                refine ⟨trivial, (callsIn_wide.2 (Hw.out _ (by ((repeat' (first | with_reducible exact Below.refl _ _ | with_reducible refine Below.alloc ?_ ?_ _ | with_reducible refine Below.setCell ?_ ?_ _ | with_reducible refine Below.drew ?_ | with_reducible refine below_drewN ?_ _)) <;> (first | omega | (simp; done) | (simp; omega)))))).mono ?_⟩
                rintro e w1 ⟨rfl, b1⟩
                obtain ⟨kb1_0, fb1_0, zb1_0, zab1_0, zbb1_0, zcb1_0, zdb1_0, zeb1_0⟩ := bk3 b1 (wr.heap.size) (by first | omega | (simp; done) | (simp; omega))
                have bw : Below wr.heap.size wr w1 := (by ((repeat' (first | with_reducible exact Below.refl _ _ | with_reducible exact b1 | with_reducible refine Below.alloc ?_ ?_ _ | with_reducible refine Below.setCell ?_ ?_ _ | with_reducible refine Below.drew ?_ | with_reducible refine below_drewN ?_ _ | with_reducible refine Below.trans ?_ (b1.mono ?_))) <;> (first | omega | (simp; done) | (simp; omega))))
                have hJ1 := hJ _ _ _ none hJq (grown_of_below bw) (fun r h => by cases h)
                have hr1 := HrQ.out.below (Nat.le_refl _) bw
                obtain ⟨fn, tmps, assign, body, hy, hR⟩ := hY pr (.slice oa U.length ocap, ⟨U, ev, wd⟩) w1 hJ1 ⟨hr1, Hblk.out, HG.out, Hwd.out.symm⟩
                have hk1 : KeepC bo bf W w1 := hKq.trans (KeepC.of_below bw)
                simp only [ofEnc] at hy
                gi_wp2_with fail
                refine hR.mono ?_
                rintro e w3 ⟨rfl, hJ3, hk3⟩
                have Hr3 := hide (isrow_keepC hr1 (fun q hq => (Hblk.out q hq).1) hk3)
                gi_wp2
                go_roundw
                case rel => exact ⟨j + 1, _, by omega, by go_num, hide (by rw [Hpe.out, if_pos HG.out, ← List.append_assoc, ← Hq.out]; simp), hJ3, hk1.trans hk3, Hr3.out⟩
                case measure => simp [intOf]; omega
              | false =>
                rw [hG, if_neg (by simp)] at hwE
                rw [hwE] at Hw
                have HG := hide hG
                have HrQ := hide hrq
                clear hwE hG hrq
                gi_wp2_with fail
                refine ⟨trivial, (callsIn_wide.2 (Hw.out _ (by ((repeat' (first | with_reducible exact Below.refl _ _ | with_reducible refine Below.alloc ?_ ?_ _ | with_reducible refine Below.setCell ?_ ?_ _ | with_reducible refine Below.drew ?_ | with_reducible refine below_drewN ?_ _)) <;> (first | omega | (simp; done) | (simp; omega)))))).mono ?_⟩
                rintro e w1 ⟨rfl, b1⟩
                obtain ⟨kb1_0, fb1_0, zb1_0, zab1_0, zbb1_0, zcb1_0, zdb1_0, zeb1_0⟩ := bk3 b1 (wr.heap.size) (by first | omega | (simp; done) | (simp; omega))
                have bw : Below wr.heap.size wr w1 := (by ((repeat' (first | with_reducible exact Below.refl _ _ | with_reducible exact b1 | with_reducible refine Below.alloc ?_ ?_ _ | with_reducible refine Below.setCell ?_ ?_ _ | with_reducible refine Below.drew ?_ | with_reducible refine below_drewN ?_ _ | with_reducible refine Below.trans ?_ (b1.mono ?_))) <;> (first | omega | (simp; done) | (simp; omega))))
                have hJ1 := hJ _ _ _ none hJq (grown_of_below bw) (fun r h => by cases h)
                have hr1 := HrQ.out.below (Nat.le_refl _) bw
                gi_wp2_with (refine wpListIn_skip rfl rfl ?_)
                go_roundw
                case rel => exact ⟨j + 1, pr, by omega, by go_num, hide (by rw [Hpe.out, if_neg (by rw [HG.out]; simp)]; exact Hq.out), hJ1, hKq.trans (KeepC.of_below bw), hr1⟩
                case measure => simp [intOf]; omega
            · obtain rfl : j = pl.length := by omega
              have hof : ofTo ⟨r, f, lo, tm, ps⟩ pl (m + 1) = ofTo ⟨r, f, lo, tm, ps⟩ pl m ++ perTo ⟨r, f, lo, tm, ps⟩ U pl pl.length := by rw [HU.out.symm]; rfl
              have Hof := hide hof
              clear hof
              gi_wp2
              go_roundw
              case rel => exact ⟨m + 1, pr, by omega, by go_num, by rw [Hof.out]; exact Hq, hJq, hKq⟩
              case measure => simp [intOf]; omega
    · obtain rfl : m = N := by omega
      gi_wp2
      go_end0
      exact ⟨⟨_, rfl⟩, pre, Hp.out, hJr⟩
end Go.Proofs.Ytiaahfccebmkdaa
