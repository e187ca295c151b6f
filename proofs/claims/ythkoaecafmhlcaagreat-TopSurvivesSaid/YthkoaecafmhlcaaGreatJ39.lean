/- Parts TuI TtW of the proof, joined. -/
import Derived.Test.YthkoaecafmhlcaaGreatTuH
import Derived.Test.YthkoaecafmhlcaaGreatTtV
import Derived.Test.YthkoaecafmhlcaaGreatJ37
import Derived.Test.YthkoaecafmhlcaaGreatJ01
/- What stands while a course runs: the leader's rows, the row of all transactions. -/
namespace Go.Proofs.YthkoaecafmhlcaaGreat
open Go.RowKit
theorem OwnTx.same {w w' : World} {base : Nat} {v : Value} {l : List Tx} (h : OwnTx w base v l) (hz : w.heap.size ≤ w'.heap.size) (hb : ∀ q, base ≤ q → q < w.heap.size → w'.heap[q]? = w.heap[q]?) : OwnTx w' base v l := by
 obtain ⟨xs, h1, h2, h3⟩ := h
 have hl := World.ownsRow.lt h2
 exact ⟨xs, h1, owns_same h2 fun k hk => hb k (hl k hk).1 (hl k hk).2, fun x hx => ⟨(h3 x hx).1.same hz (fun hn q hq => hb q ((h3 x hx).2.1 q hq) ((h3 x hx).1.lt.1 hn q hq)) (fun hn q hq => hb q ((h3 x hx).2.2 q hq) ((h3 x hx).1.lt.2 hn q hq)), (h3 x hx).2⟩⟩
theorem OwnTx.lt {w : World} {base : Nat} {v : Value} {l : List Tx} (h : OwnTx w base v l) : ∀ q, v.ownBlock = some q → base ≤ q ∧ q < w.heap.size := by
 obtain ⟨xs, h1, h2, h3⟩ := h
 exact World.ownsRow.lt h2
theorem OwnTx.val {w : World} {base : Nat} {v : Value} {l : List Tx} (h : OwnTx w base v l) : v = .slice none 0 0 ∨ ∃ b n cap, v = .slice (some ⟨b, 0, none⟩) n cap := by
 obtain ⟨xs, h1, h2, h3⟩ := h
 rcases h2.2 with ⟨hv, h0⟩ | ⟨g, cap, cur, hv, -⟩
 ·exact .inl hv
 ·exact .inr ⟨g, _, cap, hv⟩
theorem ld_size {D : List Tx} (h : GoodD D) (m : Nat) : (ldOf D m).st.length + nwr (ldOf D m).opn ≤ 8 * D.length := by
 have hT : GoodD (D.take m) := h.sub (List.take_sublist _ _)
 obtain ⟨s1, s2, s3⟩ := stV_ok (evs_pair hT)
 show (stV (evs (D.take m))).length + nwr (D.drop m) ≤ _
 rw [s3]
 have e : nwr D = nwr (D.take m) + nwr (D.drop m) := by rw [← nwr_append, List.take_append_drop]
 have := nwr_le (D := D) fun t ht => (h.2 t ht).1.2.2.2.2.2
 show nwr (D.take m) + nwr (D.drop m) ≤ _
 omega
theorem ld_show (D : List Tx) (m n : Nat) : stF (ldOf D m).st (evs ((ldOf D m).opn.take n)) = (ldOf D (m + n)).st ∧ (ldOf D m).opn.drop n = (ldOf D (m + n)).opn := by
 refine ⟨?_, ?_⟩
 ·show stF (stV (evs (D.take m))) (evs ((D.drop m).take n)) = stV (evs (D.take (m + n)))
  rw [List.take_add, evs_append]
  unfold stV
  rw [stF_append]
 ·show (D.drop m).drop n = D.drop (m + n)
  rw [List.drop_drop]
theorem ld_stamp {D : List Tx} {m : Nat} (hm : m ≤ D.length) (t : Tx) : (ldOf (D ++ [t]) m).st = (ldOf D m).st ∧ (ldOf (D ++ [t]) m).opn = (ldOf D m).opn ++ [t] ∧ (ldOf (D ++ [t]) m).last = t.ts := by
 refine ⟨?_, ?_, topTs_snoc D t⟩
 ·show stV (evs ((D ++ [t]).take m)) = _
  rw [List.take_append_of_le_length hm]
  rfl
 ·show (D ++ [t]).drop m = D.drop m ++ [t]
  rw [List.drop_append_of_le_length hm]
structure RunS (wx : World) (base : Nat) (D : List Tx) (m : Nat) (stv opv dv : Value) : Prop where
 g : GoodD D
 mle : m ≤ D.length
 st : Owns 64 encVr 4 wx base stv (ldOf D m).st
 op : OwnTx wx base opv (ldOf D m).opn
 dn : OwnTx wx base dv D
 sep : ∀ q, dv.ownBlock = some q → opv.ownBlock ≠ some q
theorem RunS.same {wx wy : World} {base : Nat} {D : List Tx} {m : Nat} {stv opv dv : Value} (h : RunS wx base D m stv opv dv) (hz : wx.heap.size ≤ wy.heap.size) (hb : ∀ q, base ≤ q → q < wx.heap.size → wy.heap[q]? = wx.heap[q]?) : RunS wy base D m stv opv dv := by
 have hl := World.ownsRow.lt h.st
 exact ⟨h.g, h.mle, owns_same h.st fun k hk => hb k (hl k hk).1 (hl k hk).2, h.op.same hz hb, h.dn.same hz hb, h.sep⟩
theorem RunS.below {wx wy : World} {base : Nat} {D : List Tx} {m : Nat} {stv opv dv : Value} (h : RunS wx base D m stv opv dv) (b : Below wx.heap.size wx wy) : RunS wy base D m stv opv dv := h.same b.size fun q _ hq => b.block q hq
theorem RunS.set {wx : World} {base : Nat} {D : List Tx} {m : Nat} {stv opv dv : Value} (h : RunS wx base D m stv opv dv) {p : Addr} (hp : p.block < base) (u : Value) : RunS (wx.setCell p u) base D m stv opv dv :=
 h.same (by simp [World.setCell]) fun q hq _ => Below.heap_setCell _ _ _ q (by omega)
theorem RunS.ld {wx : World} {base : Nat} {D : List Tx} {m : Nat} {stv opv dv : Value} (h : RunS wx base D m stv opv dv) : LdRd wx stv opv (ldOf D m) := ⟨h.st.row encVr_length ver0 (by omega), h.op.ty.row⟩
theorem RunS.start (w : World) (base : Nat) : RunS w base [] 0 (.slice none 0 0) (.slice none 0 0) (.slice none 0 0) :=
 ⟨⟨List.Pairwise.nil, fun t ht => by simp at ht⟩, Nat.le_refl _, Owns.nil _ _, OwnTx.nil _ _, OwnTx.nil _ _, fun q hq => by simp [Value.ownBlock] at hq⟩
theorem RunS.mono {wx : World} {base b2 : Nat} {D : List Tx} {m : Nat} {stv opv dv : Value} (h : RunS wx base D m stv opv dv) (hb : b2 ≤ base) : RunS wx b2 D m stv opv dv := ⟨h.g, h.mle, h.st.mono hb, h.op.mono hb, h.dn.mono hb, h.sep⟩
theorem RunS.shown {wx wy : World} {base : Nat} {D : List Tx} {m n : Nat} {stv opv dv stv' opv' : Value} (h : RunS wx base D m stv opv dv) (hb : Below wx.heap.size wx wy) (hbase : base ≤ wx.heap.size) (hn : n ≤ (ldOf D m).opn.length)
  (h1 : Owns 64 encVr 4 wy wx.heap.size stv' (stF (ldOf D m).st (evs ((ldOf D m).opn.take n)))) (h2 : OwnTx wy wx.heap.size opv' ((ldOf D m).opn.drop n)) : RunS wy base D (m + n) stv' opv' dv := by
 have hd := h.dn.lt
 obtain ⟨e1, e2⟩ := ld_show D m n
 rw [e1] at h1
 rw [e2] at h2
 have hl2 := h2.lt
 refine ⟨h.g, ?_, h1.mono hbase, h2.mono hbase, h.dn.below (Nat.le_refl _) hb, fun q hq e => ?_⟩
 ·have : (ldOf D m).opn.length = D.length - m := List.length_drop ..
  have := h.mle
  omega
 ·have := (hd q hq).2
  have := (hl2 q e).1
  omega
structure RunP (wx : World) (base : Nat) (D : List Tx) (m : Nat) (t : Tx) (stv opv dv rv wv : Value) : Prop where
 g : GoodD D
 mle : m ≤ D.length
 st : Owns 64 encVr 4 wx base stv (ldOf D m).st
 op : OwnTx wx base opv ((ldOf D m).opn ++ [t])
 dn : OwnTx wx base dv D
 sep : ∀ q, dv.ownBlock = some q → opv.ownBlock ≠ some q
 ty : TvTy wx rv wv t ∧ LocT base rv wv
 fm : Fm t ∧ topTs D < t.ts
theorem RunP.same {wx wy : World} {base : Nat} {D : List Tx} {m : Nat} {t : Tx} {stv opv dv rv wv : Value} (h : RunP wx base D m t stv opv dv rv wv) (hz : wx.heap.size ≤ wy.heap.size) (hb : ∀ q, base ≤ q → q < wx.heap.size → wy.heap[q]? = wx.heap[q]?) : RunP wy base D m t stv opv dv rv wv := by
 have hl := World.ownsRow.lt h.st
 exact ⟨h.g, h.mle, owns_same h.st fun k hk => hb k (hl k hk).1 (hl k hk).2, h.op.same hz hb, h.dn.same hz hb, h.sep, ⟨h.ty.1.same hz (fun hn q hq => hb q (h.ty.2.1 q hq) (h.ty.1.lt.1 hn q hq)) (fun hn q hq => hb q (h.ty.2.2 q hq) (h.ty.1.lt.2 hn q hq)), h.ty.2⟩, h.fm⟩
theorem RunP.below {wx wy : World} {base : Nat} {D : List Tx} {m : Nat} {t : Tx} {stv opv dv rv wv : Value} (h : RunP wx base D m t stv opv dv rv wv) (b : Below wx.heap.size wx wy) : RunP wy base D m t stv opv dv rv wv := h.same b.size fun q _ hq => b.block q hq
theorem RunP.made {wx wy : World} {base : Nat} {D : List Tx} {m : Nat} {t : Tx} {stv opv dv stv' opv' rv wv : Value} (h : RunS wx base D m stv opv dv) (hb : Below wx.heap.size wx wy) (hbase : base ≤ wx.heap.size)
  (h1 : Owns 64 encVr 4 wy wx.heap.size stv' (ldOf D m).st) (h2 : OwnTx wy wx.heap.size opv' ((ldOf D m).opn ++ [t])) (h3 : TvTy wy rv wv t) (h4 : LocT wx.heap.size rv wv) (hf : Fm t) (ht : topTs D < t.ts) : RunP wy base D m t stv' opv' dv rv wv := by
 have hd := h.dn.lt
 have hl2 := h2.lt
 refine ⟨h.g, h.mle, h1.mono hbase, h2.mono hbase, h.dn.below (Nat.le_refl _) hb, fun q hq e => ?_, ⟨h3, h4.mono hbase⟩, hf, ht⟩
 have := (hd q hq).2
 have := (hl2 q e).1
 omega
theorem RunP.push {w5 w6 : World} {base : Nat} {D : List Tx} {m : Nat} {t : Tx} {stv opv dv rv wv v6 : Value} {tmp : Obj} {xs : List Tv} (h : RunP w5 base D m t stv opv dv rv wv) (hx1 : xs.map (·.t) = D) (hx2 : Owns 28 encT 4 w5 base dv xs) (hx3 : ∀ y, y ∈ xs → TvTy w5 y.rv y.wv y.t ∧ LocT base y.rv y.wv)
  (hg : (w5.alloc tmp).grownBy w6 dv.ownBlock) (hown : w6.ownsRow base 28 4 v6 (xs.length + 1) (xs.flatMap encT ++ encT ⟨rv, wv, t⟩)) (hnew : ∀ r, v6.ownBlock = some r → dv.ownBlock = some r ∨ w5.heap.size ≤ r) : RunS w6 base (D ++ [t]) m stv opv v6 := by
 obtain ⟨e1, e2, -⟩ := ld_stamp (D := D) h.mle t
 have hp := OwnTx.push (x := ⟨rv, wv, t⟩) hx2 hx3 h.ty.1 h.ty.2 hg hown
 rw [hx1] at hp
 have hol := h.op.lt
 have hz : w5.heap.size ≤ w6.heap.size := by have := hg.size; simp at this; omega
 have h1 := (topTs_bd h.g).1
 refine ⟨goodD_snoc h.g h.fm.1 (by have := h.fm.2; omega) h.fm.2, by rw [List.length_append]; have := h.mle; omega, ?_, ?_, hp.1, fun q hq e => ?_⟩
 ·rw [e1]
  exact owns_kt h.st hp.2 (by decide)
 ·rw [e2]
  obtain ⟨ys, hy1, hy2, hy3⟩ := h.op
  refine ⟨ys, hy1, owns_same hy2 fun k hk => ?_, fun y hy => ⟨(hy3 y hy).1.ktx hp.2, (hy3 y hy).2⟩⟩
  refine (hg.block k (by simp; have := (hol k hk).2; omega) (fun e => h.sep k e.symm hk)).trans (Below.heap_alloc _ _ _ (hol k hk).2)
 ·rcases hnew q hq with h2 | h2
  ·exact h.sep q h2 e
  ·have := (hol q e).2; omega
end Go.Proofs.YthkoaecafmhlcaaGreat
/- slices.Grow of nothing, slices.Concat of two lists of bytes. -/
namespace Go.Proofs.YthkoaecafmhlcaaGreat
open Go.RowKit
attribute [local simp] size_drewT
theorem wpList_append_zeros {P : Program} {ops : Array Oper} {rest : List Oper} {o : Oper} {a : Act} {Q : Exit → Act → World → Prop} (w : World) (hgd : o.guard = none) (s x : Operand) (t tn : TypeId)
  (ho : o.op = .call { callee := .builtin .append, args := #[s, x], argTypes := #[t, tn] })
  (base : Nat) (e : TypeId) (i : TypeInfo) (z : Value) (bytes : Nat) (k kn : IntKind) (ht : P.underlying t = some (.slice e)) (htn : P.underlying tn = some (.int kn)) (hi : P.info? e = some i) (hz : i.zero = some z)
  (hsize : i.size = 1) (hby : i.bytes = bytes) (hzc : z.cells = #[z]) (h1 : z.oneCell' = true)
  (v : Value) (n : Nat) (xs : List Value) (hs : a.eval s = v) (hown : w.ownsRow base e 1 v n xs) (m : Nat) (hx : a.eval x = .int k m) (h63 : n + m ≤ maxLen) (hbytes : (n + m) * bytes ≤ 140737488355328) (hbase : base ≤ w.heap.size)
  (h : ∀ v' w', w'.ownsRow base e 1 v' (n + m) (xs ++ List.replicate m z) → w.grownBy w' v.ownBlock → wpList P ops Q rest (a.put o.dst v') w') : wpList P ops Q (o :: rest) a w := by
 refine wpList_plain hgd fun K hK => ?_
 obtain ⟨v', w', hrun, h2, h3⟩ := run_append_zeros (P := P) w base t tn o.type e i z bytes k kn ht htn hi hz hsize hby hzc h1 v n xs hown m h63 hbytes hbase
 unfold Oper.wp execOp
 simp only [ho, resolve, invoke, builtin, Sem.run_bind, Sem.run_pure, Result.andThen_ok, List.map_toArray, List.map_cons, List.map_nil, hs, hx, hrun]
 exact hK _ _ (h v' w' h2 h3)
theorem own_pre {w : World} {base e size g n cap : Nat} {xs : List Value} (h : w.ownsRow base e size (.slice (some ⟨g, 0, none⟩) n cap) n xs) : w.ownsRow base e size (.slice (some ⟨g, 0, none⟩) 0 cap) 0 [] := by
 refine ⟨by simp, .inr ?_⟩
 rcases h.2 with ⟨hv, _⟩ | ⟨g', cap', cur, hv, hg, hc, hn, hmx, hcs, ht⟩
 ·simp at hv
 ·simp only [Value.slice.injEq, Option.some.injEq, Addr.mk.injEq, and_true, true_and] at hv
  obtain ⟨rfl, rfl⟩ := hv
  exact ⟨g, cap, cur, rfl, hg, hc, by omega, hmx, hcs, by simp⟩
theorem own_cap {w : World} {base e size n cap : Nat} {a : Option Addr} {xs : List Value} (h : w.ownsRow base e size (.slice a n cap) n xs) : n ≤ cap := by
 rcases h.2 with ⟨hv, h0⟩ | ⟨g', cap', cur, hv, hg, hc, hn, hmx, hcs, ht⟩
 ·omega
 ·simp only [Value.slice.injEq] at hv
  omega
set_option maxHeartbeats 1000000 in
set_option maxRecDepth 100000 in
set_option maxHeartbeats 400000 in
theorem Grow_any (n : Nat) (w : World) (h1 : 1 ≤ n) (hn : n ≤ 200000) :
  Calls Tryz.prog 56 #[.slice none 0 0, .int .i64 n] w fun e w' => ∃ v, e = .returned v ∧ OwnBy w' w.heap.size v [] ∧ Below w.heap.size w w' := by
 obtain ⟨i0, hi, hz0, hz1, hz2⟩ := info_parts infoBy0
 have w0 : IntKind.i64.wrap (n : Int) = n := by rw [IntKind.wrap_i64]; omega
 have I1 : (0 : Int) < (n : Int) := by omega
 go_enter Tryz.func56, Tryz.ntmps56
 go_wp2_with (at_builtin; refine wpList_append_zeros w rfl _ _ 42 3 rfl w.heap.size 5 i0 (.int .u8 0) 1 .i64 .i64 Tryz.underlying42 Tryz.underlying3 hi hz0 hz1 hz2 rfl rfl (.slice none 0 0) 0 [] rfl (World.ownsRow_nil _ _ _ _) n rfl (by unfold maxLen; omega) (by omega) (Nat.le_refl _) ?_; intro v6 w6 hown6 hg6; obtain ⟨g6, c6, rfl, q1, q2⟩ := World.ownsRow.form hown6 (by omega); have hcap : 0 + n ≤ c6 := own_cap hown6)
 go_ret
 exact ⟨_, rfl, own_pre hown6, Below.grown (.refl _ _) hg6 (Nat.le_refl _) (fun r e => by simp [Value.ownBlock] at e)⟩
set_option maxHeartbeats 1000000 in
set_option maxRecDepth 100000 in
set_option maxHeartbeats 400000 in
theorem Concat_any (b c : Nat) (v1 v2 : Value) (l1 l2 : List Int) (w : World) (hb : b < w.heap.size) (x1 : w.cell? ⟨b, 0, none⟩ = some v1) (x2 : w.cell? ⟨b, 1, none⟩ = some v2) (h1 : BRow w v1 l1) (h2 : BRow w v2 l2) (hp : 1 ≤ l2.length) (hl : l1.length + l2.length ≤ 100000) :
  Calls Tryz.prog 22 #[.slice (some ⟨b, 0, none⟩) 2 c] w fun e w' => ∃ v, e = .returned v ∧ OwnBy w' w.heap.size v (l1 ++ l2) ∧ Below w.heap.size w w' := by
 obtain ⟨i0, hi, hz0, hz1, hz2⟩ := info_parts infoBy0
 obtain ⟨a1, c1, rfl, -⟩ := h1.len
 obtain ⟨a2, c2, rfl, -⟩ := h2.len
 have HS1 := hide (fun (V : World) (hV : Below w.heap.size w V) => src_rows encB_length (by omega) (h1.below (Nat.le_refl _) hV))
 have HS2 := hide (fun (V : World) (hV : Below w.heap.size w V) => src_rows encB_length (by omega) (h2.below (Nat.le_refl _) hV))
 have HX := hide (fun (V : World) (hV : Below w.heap.size w V) => And.intro ((hV.cell (p := ⟨b, 0, none⟩) hb).trans x1) ((hV.cell (p := ⟨b, 1, none⟩) hb).trans x2))
 have HO1 := hide (encB_one l1)
 have HO2 := hide (encB_one l2)
 obtain ⟨n1, hn1⟩ : ∃ n, n = l1.length := ⟨_, rfl⟩
 obtain ⟨n2, hn2⟩ : ∃ n, n = l2.length := ⟨_, rfl⟩
 rw [← hn1] at HS1 HX hl
 rw [← hn2] at HS2 HX hl hp
 have HN := hide (And.intro hn1 hn2)
 clear h1 h2 hn1 hn2
 have w1 : IntKind.i64.wrap (n1 : Int) = n1 := by rw [IntKind.wrap_i64]; omega
 have w2 : IntKind.i64.wrap ((n1 : Int) + (n2 : Int)) = ((n1 + n2 : Nat) : Int) := by rw [IntKind.wrap_i64]; omega
 have d1 : decide ((n1 : Int) < 0) = false := decide_eq_false (by omega)
 have d2 : decide (((n1 + n2 : Nat) : Int) < 0) = false := decide_eq_false (by omega)
 obtain ⟨n3, hn3⟩ : ∃ n, n = n1 + n2 := ⟨_, rfl⟩
 rw [← hn3] at w2 d2
 have h31 : 1 ≤ n3 := by omega
 have h32 : n3 ≤ 100000 := by omega
 have HN3 := hide hn3
 clear hn3
 clear x1 x2
 go_enter Tryz.func22, Tryz.ntmps22
 go_wp2_with fail
 go_loopw [11, 3] (fun s11 s3 wx => ((s11 = .int .i64 0 ∧ s3 = .int .i64 0) ∨ (s11 = .int .i64 1 ∧ s3 = .int .i64 n1) ∨ (s11 = .int .i64 2 ∧ s3 = .int .i64 n3)) ∧ Below w.heap.size w wx) (fun s11 _ _ => 2 - (intOf s11).toNat)
 case atStart => exact ⟨.inl ⟨rfl, rfl⟩, .refl _ _⟩
 case round =>
  obtain ⟨hh, hB⟩ := hrel
  obtain ⟨y1, y2⟩ := HX.out wr hB
  rcases hh with ⟨rfl, rfl⟩ | ⟨rfl, rfl⟩ | ⟨rfl, rfl⟩
  ·go_wp2_with fail
   go_roundw
   case rel => exact ⟨.inr (.inl ⟨rfl, by go_num⟩), hB⟩
   case measure => simp [intOf]
  ·go_wp2_with fail
   go_roundw
   case rel => exact ⟨.inr (.inr ⟨rfl, by go_num⟩), hB⟩
   case measure => simp [intOf]
  ·clear y1 y2
   go_wp2_with (go_at_call 56; (with_reducible refine (Grow_any n3 wr h31 (by omega)).mono ?_); rintro e w3 ⟨v3, rfl, o3, b3⟩)
   have B3 : Below w.heap.size w w3 := hB.trans (b3.mono hB.size)
   have O3 : OwnBy w3 w.heap.size v3 [] := o3.mono hB.size
   obtain ⟨a3, c3, rfl⟩ : ∃ a c, v3 = .slice a 0 c := ownsRow_val O3
   clear o3 b3
   go_loopw [27, 6] (fun s27 s6 wx => ((s27 = .int .i64 0 ∧ Hid (OwnBy wx w.heap.size s6 [])) ∨ (s27 = .int .i64 1 ∧ Hid (OwnBy wx w.heap.size s6 l1)) ∨ (s27 = .int .i64 2 ∧ Hid (OwnBy wx w.heap.size s6 (l1 ++ l2)))) ∧ Below w.heap.size w wx) (fun s27 _ _ => 2 - (intOf s27).toNat)
   case atStart => exact ⟨.inl ⟨rfl, hide O3⟩, B3⟩
   case round =>
    clear O3 B3 hB
    obtain ⟨hh, hB⟩ := hrel
    obtain ⟨y1, y2⟩ := HX.out wr hB
    have hzB := hB.size
    rcases hh with ⟨rfl, O⟩ | ⟨rfl, O⟩ | ⟨rfl, O⟩
    ·obtain ⟨a4, c4, rfl⟩ : ∃ a c, u6 = .slice a 0 c := ownsRow_val O.out
     have Hlow := hide (fun r (e : (Value.slice a4 0 c4).ownBlock = some r) => (World.ownsRow.lt O.out r e).1)
     go_wp2_with (at_builtin; refine wpList_append_src _ rfl _ _ 42 rfl w.heap.size 5 i0 (.int .u8 0) 1 1 Tryz.underlying42 hi hz0 hz1 hz2 rfl (by decide) _ 0 [] rfl O.out _ n1 (l1.flatMap encB) rfl (HS1.out _ hB) HO1.out (by unfold maxLen; omega) (by omega) hzB ?_; intro v6 w6 hown6 hg6 _; obtain ⟨a6, c6, rfl⟩ := ownsRow_val hown6; have b6 : Below w.heap.size w w6 := Below.grown hB hg6 hzB (fun r e => Hlow.out r e); have HO6 := hide hown6; clear hown6 hg6)
     go_roundw
     case rel => exact ⟨.inr (.inl ⟨by go_num, hide (by have h_ := HO6.out; rw [List.nil_append, Nat.zero_add] at h_; unfold OwnBy Owns; rw [← HN.out.1, ]; exact h_)⟩), b6⟩
     case measure => simp [intOf]
    ·obtain ⟨a4, c4, rfl⟩ := ownsRow_val O.out
     have Hlow := hide (fun r (e : (Value.slice a4 l1.length c4).ownBlock = some r) => (World.ownsRow.lt O.out r e).1)
     have O2 : wr.ownsRow w.heap.size 5 1 (.slice a4 l1.length c4) n1 (l1.flatMap encB) := by have h_ := O.out; unfold OwnBy Owns at h_; rw [← HN.out.1] at h_ ⊢; exact h_
     have HO2' := hide O2
     clear O2
     go_wp2_with (at_builtin; refine wpList_append_src _ rfl _ _ 42 rfl w.heap.size 5 i0 (.int .u8 0) 1 1 Tryz.underlying42 hi hz0 hz1 hz2 rfl (by decide) _ n1 (l1.flatMap encB) rfl HO2'.out _ n2 (l2.flatMap encB) rfl (HS2.out _ hB) HO2.out (by unfold maxLen; omega) (by omega) hzB ?_; intro v6 w6 hown6 hg6 _; obtain ⟨a6, c6, rfl⟩ := ownsRow_val hown6; have b6 : Below w.heap.size w w6 := Below.grown hB hg6 hzB (fun r e => Hlow.out r e); have HO6 := hide hown6; clear hown6 hg6)
     go_roundw
     case rel => exact ⟨.inr (.inr ⟨by go_num, hide (by have h_ := HO6.out; unfold OwnBy Owns; rw [List.length_append, List.flatMap_append, ← HN.out.1, ← HN.out.2]; exact h_)⟩), b6⟩
     case measure => simp [intOf]
    ·obtain ⟨a4, c4, rfl⟩ := ownsRow_val O.out
     have HO6 := hide O.out
     clear O
     go_wp2_with fail
     go_ret
     exact ⟨_, rfl, HO6.out, hB⟩
end Go.Proofs.YthkoaecafmhlcaaGreat
