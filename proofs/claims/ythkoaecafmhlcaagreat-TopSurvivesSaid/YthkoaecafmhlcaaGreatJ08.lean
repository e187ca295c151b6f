/- Parts TsV TsW TsX of the proof, joined. -/
import Derived.Test.YthkoaecafmhlcaaGreatTsR
import Derived.Test.YthkoaecafmhlcaaGreatJ05
import Derived.Test.YthkoaecafmhlcaaGreatJ02
import Derived.Test.YthkoaecafmhlcaaGreatRf
import Derived.Test.YthkoaecafmhlcaaGreatJ00
import Derived.Laws.BitsLemmas
import Derived.RangeFuncBox
import Derived.RangeFuncFrom
import Derived.Shelf.Abstract
import Derived.Shelf.AbstractIn
import Derived.Shelf.RegionOpen
import Derived.OwnWalkIn
import Derived.TacticsInMore
import Derived.LoopNIn
import Derived.LoopIn
import Derived.Sort.QuietIn
import Derived.Sort.BigQuietIn
import Derived.Sort.QuietTacIn
import Derived.BigRegionIn
/- Package digest: Sum. -/
namespace Go.Proofs.YthkoaecafmhlcaaGreat
open Go.RowKit
def fstep (h x : Int) : Int := IntKind.u64.wrap (bits .xor .u64 h x * 1099511628211)
theorem getD_lt0 {l : List Int} {k : Nat} (h : k < l.length) : l.getD k 0 = l[k] := by simp [List.getD_eq_getElem?_getD, List.getElem?_eq_getElem h]
def fnv : Int → List Int → Int
 | h, [] => h
 | h, x :: l => fnv (fstep h x) l
theorem fnv_snoc : ∀ (l : List Int) (h x : Int), fnv h (l ++ [x]) = fstep (fnv h l) x
 | [], _, _ => rfl
 | y :: l, h, x => fnv_snoc l (fstep h y) x
theorem fnv_take (l : List Int) (h : Int) {k : Nat} (hk : k < l.length) : fnv h (l.take (k + 1)) = fstep (fnv h (l.take k)) (l.getD k 0) := by
 rw [← fnv_snoc, getD_lt0 hk, List.take_succ_eq_append_getElem hk]
theorem wrap_u64_byte {x : Int} (h : 0 ≤ x ∧ x ≤ 255) : IntKind.u64.wrap x = x := by
 have e : IntKind.u64.wrap x = x % 18446744073709551616 := by simp [IntKind.wrap, IntKind.signed, IntKind.bits]
 omega
set_option maxHeartbeats 1000000 in
set_option maxRecDepth 100000 in
set_option maxHeartbeats 400000 in
theorem Sum_any (v : Value) (l : List Int) (w : World) (h : BRow w v l) (hl : l.length ≤ 1000000) (hb : ∀ x, x ∈ l → 0 ≤ x ∧ x ≤ 255) : Calls Tryz.prog 92 #[v] w fun e w' => e = .returned (.int .u64 (fnv 14695981039346656037 l)) ∧ w = w' := by
 obtain ⟨a1, cap1, rfl, -⟩ := h.len
 have H := hide h
 clear h
 go_enter Tryz.func92, Tryz.ntmps92
 go_wp2_with fail
 go_loopw [8, 3] (fun s8 s3 wx => ∃ (k : Nat), k ≤ l.length ∧ s8 = .int .i64 k ∧ s3 = .int .u64 (fnv 14695981039346656037 (l.take k)) ∧ w = wx) (fun s8 _ _ => l.length - (intOf s8).toNat)
 case atStart => exact ⟨0, Nat.zero_le _, rfl, rfl, rfl⟩
 case round =>
  obtain ⟨k, hk, rfl, rfl, rfl⟩ := hrel
  by_cases hlt : k < l.length
  ·obtain ⟨b, off, cap', hb', hlt0, x0⟩ := BRow.at_ H.out hlt
   cases hb'
   have hx := hb _ (show l.getD k 0 ∈ l by rw [getD_lt0 hlt]; exact List.getElem_mem hlt)
   have ht := fnv_take l 14695981039346656037 hlt
   have hwx := wrap_u64_byte hx
   generalize l.getD k 0 = x at *
   have I1 : (0 : Int) ≤ (k : Int) := by omega
   have I2 : (k : Int) < (l.length : Int) := by omega
   unfold fstep at ht
   have HT := hide ht
   clear ht
   generalize fnv 14695981039346656037 (l.take k) = f at *
   go_wp2_with fail
   go_roundw
   case rel => exact ⟨k + 1, by omega, by go_num, by rw [HT.out], trivial⟩
   case measure => simp [intOf]; omega
  ·obtain rfl : k = l.length := by omega
   rw [List.take_length]
   go_wp2_with fail
   go_ret
   exact ⟨rfl, rfl⟩
end Go.Proofs.YthkoaecafmhlcaaGreat
/- Package codec: digits, put (an integer behind others). -/
namespace Go.Proofs.YthkoaecafmhlcaaGreat
open Go.RowKit Go.Shelf
attribute [local go_sem] Oper.semAt_some

theorem wrap_u8_mod (n : Int) : IntKind.u8.wrap n = n % 256 := by simp [IntKind.wrap, IntKind.signed, IntKind.bits]
theorem wrap_u64_mod (n : Int) : IntKind.u64.wrap n = n % 18446744073709551616 := by simp [IntKind.wrap, IntKind.signed, IntKind.bits]
set_option maxRecDepth 100000 in
theorem or128 : ∀ a : Fin 256, a.val ||| 128 = a.val % 128 + 128 := by decide
theorem bits_or128 (z : Nat) : bits .or .u8 (IntKind.u8.wrap (z : Int)) 128 = ((z % 128 + 128 : Nat) : Int) := by
 have h := (bits_nat .u8 8 (Nat.le_refl _) (fun n h1 h2 => by rw [wrap_u8_mod]; omega) (z % 256) 128 (by omega) (by omega)).2
 rw [wrap_u8_mod, show ((z : Int) % 256) = ((z % 256 : Nat) : Int) by omega]
 refine h.trans ?_
 have := or128 ⟨z % 256, by omega⟩
 dsimp only at this
 rw [this]
 omega
theorem vint_len : ∀ (k u : Nat), u < 128 ^ (k + 1) → (vint u).length ≤ k + 1
 | 0, u, h => by rw [vint_lt (by omega)]; simp
 | k + 1, u, h => by
  by_cases h1 : u < 128
  ·rw [vint_lt h1]; simp
  ·rw [vint_ge (by omega), List.length_cons]
   have := vint_len k (u / 128) (by rw [Nat.pow_succ] at h; omega)
   omega
set_option maxRecDepth 100000 in
set_option maxHeartbeats 400000 in
theorem digits_any (u : Nat) (w : World) : Calls Tryz.prog 128 #[.int .u64 (u : Int)] w fun e w' =>
  e = .returned (.func (.func 139) #[] #[.pointer (some ⟨w.heap.size, 0, none⟩)]) ∧ w' = w.alloc (.cells #[.int .u64 (u : Int)] 149) := by
 go_enter Tryz.func128, Tryz.ntmps128
 go_wp2_with fail
 go_ret
 exact ⟨rfl, rfl⟩
def cellU (w : World) (b : Nat) : Nat := match w.cell? ⟨b, 0, none⟩ with | some (.int _ x) => x.toNat | _ => 0
set_option maxRecDepth 100000 in
set_option maxHeartbeats 2000000 in
theorem dig_hid (n : Nat) (hn : 1 ≤ n) (Bn s : Nat) (hs : s < 18446744073709551616) (w : World) (hc : w.cell? ⟨Bn, 0, none⟩ = some (.int .u64 (s : Int))) (hf : w.frozen? ⟨Bn, 0, none⟩ = false) :
  SeqHid Fence.wide n Tryz.prog 139 #[.pointer (some ⟨Bn, 0, none⟩)] (fun x : Int => #[Value.int .u8 x]) (fun ys => ys = vint s) 10 (fun _ => False) (fun r => r = Bn) w := by
 intro l J W hW hJ hY h0
 have hBl := World.block_lt_of_cell? _ _ hc
 simp only at hBl
 have hcW := (hW.cell (p := ⟨Bn, 0, none⟩) hBl).trans hc
 have hfW := (hW.frozen (p := ⟨Bn, 0, none⟩) hBl).trans hf
 have hBW : Bn < W.heap.size := Nat.lt_of_lt_of_le hBl hW.size
 have hlen : (vint s).length ≤ 10 := vint_len 9 s (by omega)
 refine callsIn_of_wp Tryz.func139 rfl trivial ?_ rfl
 simp only [Tryz.ntmps139, List.size_toArray, List.length_cons, List.length_nil, Nat.reduceAdd, Nat.reduceSub, Array.replicate_succ, Array.replicate_zero, List.push_toArray, List.append_toArray, List.nil_append, List.cons_append]
 gi_wp2
 gi_loopw [3] (fun _ wr => ∃ (z : Nat) (pre : List Int), z < 18446744073709551616 ∧ wr.cell? ⟨Bn, 0, none⟩ = some (.int .u64 (z : Int)) ∧ wr.frozen? ⟨Bn, 0, none⟩ = false ∧ Hid (pre ++ vint z = vint s) ∧ J (fun r => r = Bn) pre wr ∧ W.heap.size ≤ wr.heap.size) (fun _ wr => cellU wr Bn)
 case atStart => exact ⟨s, [], hs, hcW, hfW, hide rfl, h0, Nat.le_refl _⟩
 case round =>
  obtain ⟨z, pre, hz, hcz, hfz, Hp, hJz, hsz⟩ := hrel
  have hpl : pre.length < 10 := by
   have h1 := congrArg List.length Hp.out
   rw [List.length_append] at h1
   have : 0 < (vint z).length := by
    by_cases hz1 : z < 128
    ·rw [vint_lt hz1]; simp
    ·rw [vint_ge (by omega)]; simp
   omega
  by_cases hz0 : z < 128
  ·have hw1 : IntKind.u8.wrap (z : Int) = (z : Int) := by rw [wrap_u8_mod]; omega
   obtain ⟨fn, tmps, assign, body, hyy, hR⟩ := hY _ pre (z : Int) wr hJz hpl
   have Hc := hide hcz
   gi_wp2_with fail
   refine hR.mono ?_
   rintro e W3 ⟨rfl, hJ3, hk3⟩
   gi_wp2_with fail
   go_end0
   refine ⟨⟨_, rfl⟩, _, _, ?_, hJ3⟩
   have := Hp.out
   rwa [vint_lt hz0] at this
  ·have hor : bits .or .u8 ((z : Int) % 256) 128 = ((z % 128 + 128 : Nat) : Int) := by rw [← wrap_u8_mod]; exact bits_or128 z
   have hdv : (z : Int) / 128 = ((z / 128 : Nat) : Int) := by omega
   have Hpn : Hid ((pre ++ [((z % 128 + 128 : Nat) : Int)]) ++ vint (z / 128) = vint s) := by
    show _ = _
    rw [List.append_assoc, List.singleton_append, ← vint_ge (by omega)]; exact Hp.out
   have hyl : z / 128 < 18446744073709551616 := by omega
   have hy2 : z / 128 < z := by omega
   obtain ⟨y, hy⟩ : ∃ y, y = z / 128 := ⟨_, rfl⟩
   obtain ⟨c, hcq⟩ : ∃ c, c = z % 128 + 128 := ⟨_, rfl⟩
   rw [← hy] at hdv hyl Hpn hy2
   rw [← hcq] at Hpn hor
   clear hy hcq
   obtain ⟨fn, tmps, assign, body, hyy, hR⟩ := hY _ pre (c : Int) wr hJz hpl
   gi_wp2_with fail
   refine hR.mono ?_
   rintro e W3 ⟨rfl, hJ3, hk3⟩
   have hc3 := (hk3.cell (b := Bn) (.inl rfl) 0).trans hcz
   have hf3 := (hk3.frozen (b := Bn) (.inl rfl) 0).trans hfz
   gi_wp2
   go_roundw
   case rel =>
    refine ⟨y, _, hyl, World.cell?_setCell_same' _ _ _ (by simp [hc3]), by simp [hf3], Hpn, hJ _ _ _ _ _ (some Bn) hJ3 (grownBy_setCell' _ _ _) (fun r e => by cases e; exact .inl rfl) (fun r hr => .inl hr), ?_⟩
    exact Nat.le_trans hsz (Nat.le_trans hk3.1 (grownBy_setCell' _ _ _).size)
   case measure =>
    have e1 : cellU (W3.setCell ⟨Bn, 0, none⟩ (.int .u64 (y : Int))) Bn = y := by
     unfold cellU
     rw [World.cell?_setCell_same' _ _ _ (by simp [hc3])]; simp
    have e2 : cellU wr Bn = z := by unfold cellU; rw [hcz]; simp
    first | (rw [e1, e2]; exact hy2) | (simp only [e1, e2]; exact hy2)
end Go.Proofs.YthkoaecafmhlcaaGreat
/- Package codec: put (an integer behind others). -/
namespace Go.Proofs.YthkoaecafmhlcaaGreat
open Go.RowKit Go.Shelf
attribute [local go_sem] Oper.semAt_some

theorem putI_len {n : Int} (h : 0 ≤ n ∧ n ≤ 2000000000000000000) : (putI n).length ≤ 10 := by
 refine vint_len 9 _ ?_
 unfold zig
 split <;> omega
theorem zig_pos {n : Int} (h : 0 ≤ n) : (zig n : Int) = 2 * n := by
 unfold zig
 rw [if_pos h]; omega
theorem infoBy0 : (Tryz.prog.info? 5).map (fun i => (i.zero, i.size, i.bytes)) = some (some (.int .u8 0), 1, 1) := by kernel_rfl
theorem own_cells_ {w : World} {base e size n : Nat} {v : Value} {xs : List Value} (h : w.ownsRow base e size v n xs) {r : Nat} (hr : v.ownBlock = some r) {o : Obj} (ho' : w.heap[r]? = some o) : o.isCells = true := by
 rcases h.2 with ⟨hv, _⟩ | ⟨g, cap, cur, hv, _, hc, _⟩
 ·rw [hv] at hr; cases hr
 ·rw [hv] at hr; cases hr
  rw [hc] at ho'; cases ho'; rfl
theorem own_other_ {w w' : World} {base e size n : Nat} {v : Value} {xs : List Value} {row : Option Nat} (h : w.ownsRow base e size v n xs) (hg : w.grownBy w' row) (hr : ∀ r, v.ownBlock = some r → row ≠ some r) : w'.ownsRow base e size v n xs := by
 refine World.ownsRow.kept h hg ?_
 cases hv : v.ownBlock with
 | none => exact .inl rfl
 | some r => exact .inr (fun e => hr r hv e.symm)
def PutI (w : World) (B base : Nat) (out : List Int) (H : Nat → Prop) (pre : List Int) (W : World) : Prop :=
 ∃ ov, W.cell? ⟨B, 0, none⟩ = some ov ∧ W.frozen? ⟨B, 0, none⟩ = false ∧ OwnBy W base ov (out ++ pre) ∧ ¬ H B ∧ (∀ r, ov.ownBlock = some r → ¬ H r ∧ r ≠ B) ∧ (∀ r, H r → B ≤ r) ∧ B < W.heap.size ∧ Below base w W
theorem PutI_own (w : World) (B base C : Nat) (out : List Int) (hB : B < C) (hb : base ≤ B) : OwnH C (PutI w B base out) := by
 rintro H H' pre A D row ⟨ov, h1, h2, h3, h4, h5, h6, h7, h8⟩ hg hr hH'
 have hgs := hg.size
 have hl3 := World.ownsRow.lt h3
 have hbox : some B ≠ row := by
  intro e
  rcases hr _ e.symm with h | ⟨h, _⟩
  ·exact h4 h
  ·omega
 have hrow : ∀ r, ov.ownBlock = some r → row ≠ some r := by
  intro r hv e
  rcases hr _ e with h | ⟨_, o, ho, hc⟩
  ·exact (h5 r hv).1 h
  ·have := own_cells_ h3 hv ho; rw [this] at hc; cases hc
 refine ⟨ov, (World.cell?_of_block (a := ⟨B, 0, none⟩) (hg.block _ h7 hbox)).trans h1, (World.frozen?_of_block (a := ⟨B, 0, none⟩) (hg.block _ h7 hbox)).trans h2, own_other_ h3 hg hrow, ?_, ?_, ?_, by omega, ?_⟩
 ·intro h; rcases hH' _ h with h | h
  ·exact h4 h
  ·omega
 ·intro r hv
  refine ⟨fun h => ?_, (h5 r hv).2⟩
  rcases hH' _ h with h | h
  ·exact (h5 r hv).1 h
  ·have := (hl3 r hv).2; omega
 ·intro r h; rcases hH' _ h with h | h
  ·exact h6 r h
  ·omega
 ·refine h8.grown hg (by have := h8.size; omega) (fun r e => ?_)
  rcases hr r e with h | ⟨h, _⟩
  ·have := h6 r h; omega
  ·omega
set_option maxRecDepth 100000 in
set_option maxHeartbeats 2000000 in
theorem put_any (v : Value) (out : List Int) (n : Int) (w : World) (base : Nat) (h : OwnBy w base v out) (hb : base ≤ w.heap.size) (hl : out.length ≤ 1000000) (hn : 0 ≤ n ∧ n ≤ 2000000000000000000) :
  Calls Tryz.prog 91 #[v, .int .i64 n] w fun e w' => ∃ ov, e = .returned ov ∧ OwnBy w' base ov (out ++ putI n) ∧ Below base w w' := by
 obtain ⟨i0, hi, hz0, hz1, hz2⟩ := info_parts infoBy0
 have hlow := World.ownsRow.lt h
 have hzig := zig_pos hn.1
 have hzl : zig n < 18446744073709551616 := by omega
 have hw1 : IntKind.u64.wrap n = n := by rw [wrap_u64_mod]; omega
 have hpl := putI_len hn
 unfold putI at hpl ⊢
 generalize zig n = u at *
 have hd : n / 9223372036854775808 = 0 := by omega
 have hx : bits .xor .u64 (u : Int) ((0 : Nat) : Int) = ((u ^^^ 0 : Nat) : Int) := bits_xor_u64_nat u 0 hzl (by omega)
 rw [Nat.xor_zero, Int.natCast_zero] at hx
 obtain ⟨a0, c0, rfl⟩ := ownsRow_val h
 have hh := h
 have H := hide h
 clear h
 refine (callsIn_wide (n := 4)).1 ?_
 refine callsIn_of_wp_marks Tryz.func91 rfl trivial ?_ rfl
 simp only [Tryz.ntmps91, List.size_toArray, List.length_cons, List.length_nil, Nat.reduceAdd, Nat.reduceSub, Array.replicate_succ, Array.replicate_zero, List.push_toArray, List.append_toArray, List.nil_append, List.cons_append]
 gi_wp2_with fail
 rw [show n * 2 = (u : Int) by omega, hx]
 clear hx hd hw1 hzig
 refine ⟨trivial, (callsIn_wide.2 (digits_any u _)).mono ?_⟩
 rintro e w' ⟨rfl, rfl⟩
 gi_wp2_with fail
 have x2 : ((w.alloc (.cells #[.slice a0 out.length c0] 42)).alloc (.cells #[.int .u64 (u : Int)] 149)).heap.size = w.heap.size + 2 := by simp
 have b0 : Below base w ((w.alloc (.cells #[.slice a0 out.length c0] 42)).alloc (.cells #[.int .u64 (u : Int)] 149)) := by ((with_reducible repeat' first | exact .refl _ _ | refine .alloc ?_ ?_ _ | refine .setCell ?_ ?_ _ | refine .drew ?_ | refine below_drewN ?_ _) <;> first | omega | simp <;> omega)
 have x1 : PutI w w.heap.size base out (fun r => r = w.heap.size + 1) [] ((w.alloc (.cells #[.slice a0 out.length c0] 42)).alloc (.cells #[.int .u64 (u : Int)] 149)) :=
  ⟨.slice a0 out.length c0, by simp [go_sem], by simp [go_sem], by rw [List.append_nil]; exact World.ownsRow.alloc (World.ownsRow.alloc H.out _) _, (fun h : w.heap.size = w.heap.size + 1 => by omega), (fun r h => ⟨fun h2 => by have := hlow r h; omega, by have := hlow r h; omega⟩), (fun r (h : r = w.heap.size + 1) => by omega), by omega, b0⟩
 have xc : ((w.alloc (.cells #[.slice a0 out.length c0] 42)).alloc (.cells #[.int .u64 (u : Int)] 149)).cell? ⟨w.heap.size + 1, 0, none⟩ = some (.int .u64 (u : Int)) := by simp [go_sem]
 have xf : ((w.alloc (.cells #[.slice a0 out.length c0] 42)).alloc (.cells #[.int .u64 (u : Int)] 149)).frozen? ⟨w.heap.size + 1, 0, none⟩ = false := by simp [go_sem]
 generalize (w.alloc (.cells #[.slice a0 out.length c0] 42)).alloc (.cells #[.int .u64 (u : Int)] 149) = W0 at *
 refine wpIn_rangeFunc_hid rfl (by omega) (gf := 139) (lb := #[.pointer (some ⟨w.heap.size + 1, 0, none⟩)]) rfl trivial (enters_of Tryz.func139 (by kernel_rfl) rfl)
  (dig_hid 3 (by omega) (w.heap.size + 1) u hzl W0 xc xf) (fun r h => h.elim) (Below.refl _ _) (fun r h => by omega) (fun _ => rfl) (PutI w w.heap.size base out) (PutI_own w _ _ _ _ (by omega) hb) x1
  (fun x a' _ => a' = { tmps := #[.slice a0 out.length c0, .int .i64 n, .pointer (some ⟨w.heap.size, 0, none⟩), undef, .slice none 0 0, .int .u8 x, .int .i64 n, .int .u64 n, .int .u64 (u : Int), .int .i64 n, .int .i64 0, .int .u64 0, .int .u64 (u : Int), .func (.func 139) #[] #[.pointer (some ⟨w.heap.size + 1, 0, none⟩)], .int .u8 x, undef, undef, undef, undef, undef], defers := [] }) (fun x a' _ _ _ _ hs _ _ => hs) ?assign ?body ?done
 case assign =>
  intro l H pre x W K hi hH hK
  gi_wp2
  exact hK _ _ (KeepsFrom.refl _ _) (KeepH.refl _ _) hi rfl
 case body =>
  rintro l H pre x a' W _ _ hH _ ⟨ov, a1, a2, a3, a4, a5, a6, a7, a8⟩ rfl hlen
  obtain ⟨oa, ocap, hov⟩ := ownsRow_val a3
  have hlow := World.ownsRow.lt a3
  have a3' := a3
  unfold OwnBy Owns at a3'
  have hll : (out ++ pre).length ≤ 1000010 := by rw [List.length_append]; omega
  subst hov
  generalize hLL : (out ++ pre).length = L at a1 a3 a3' a5 hlow hll
  have HL := hide hLL
  clear hLL
  have hez := a8.size
  gi_wp2_with (gi_at_builtin; refine wpListIn_append_new _ rfl _ _ 42 rfl base 5 i0 (.int .u8 0) 1 1 Tryz.underlying42 hi hz0 hz1 hz2 rfl (by decide) _ L ((out ++ pre).flatMap encB) rfl (World.ownsRow.alloc a3' _) ⟨W.heap.size, 0, none⟩ 1 1 [.int .u8 x] rfl rfl (cells_new W [.int .u8 x] _) (by simp [Value.oneCell']) (by unfold maxLen; omega) (by omega) (by simp; omega) ?_; intro v4 w4 hown4 hg4 hnew; obtain ⟨a4', cap4, rfl⟩ := ownsRow_val hown4; obtain ⟨p1, p2⟩ := grown_keeps hg4 (b := w.heap.size) (by simp; omega) (fun h => ((a5 _ h.symm).2 rfl)))
  have o1 := (old1 W (.cells #[.int .u8 x] 5) a7 0)
  have hz4 := hg4.size
  simp only [World.size_alloc] at hz4
  have hlow4 := World.ownsRow.lt hown4
  refine ⟨((KeepsOthers.alloc W _).trans ((KeepsOthers.of_grownBy hg4 (fun r o hr ho => own_cells_ (World.ownsRow.alloc a3' _) hr ho)).trans (KeepsOthers.setCell _ _ _))).from _, ?_, ?_⟩
  ·have hHne : ∀ r, (H r ∨ False) → r < W.heap.size ∧ r ≠ w.heap.size ∧ (Value.slice oa L ocap).ownBlock ≠ some r := by
    rintro r (h | h)
    ·exact ⟨hH r h, fun e => a4 (e ▸ h), fun e => (a5 r e).1 h⟩
    ·exact h.elim
   refine ⟨by simp; omega, fun q hq => ?_⟩
   obtain ⟨h1, h2, h3⟩ := hHne q hq
   exact (Below.heap_setCell _ _ _ q h2).trans ((hg4.block q (by simp; omega) (fun e => h3 e.symm)).trans (Below.heap_alloc _ _ _ h1))
  ·have hnb : ∀ r, (Value.slice a4' (L + 1) cap4).ownBlock = some r → r ≠ w.heap.size := by
    intro r hr
    rcases hnew r hr with h | h
    ·exact (a5 r h).2
    ·simp only [World.size_alloc] at h; omega
   refine ⟨_, World.cell?_setCell_same' _ _ _ (by rw [p1, o1.1, a1]; rfl), by rw [World.frozen?_setCell, p2, o1.2]; exact a2, ?_, a4, ?_, a6, by simp; omega, ?_⟩
   ·have := own_other_ hown4 (show w4.grownBy (w4.setCell ⟨w.heap.size, 0, none⟩ (.slice a4' (L + 1) cap4)) (some w.heap.size) from grownBy_setCell' _ _ _) (fun r hr e => by cases e; exact hnb _ hr rfl)
    unfold OwnBy Owns
    rw [← List.append_assoc, List.flatMap_append]
    rw [show (out ++ pre ++ [x]).length = L + 1 by rw [List.length_append, HL.out]; rfl]
    exact this
   ·intro r hr
    refine ⟨fun hHr => ?_, hnb r hr⟩
    rcases hnew r hr with h | h
    ·exact (a5 r h).1 hHr
    ·have := hH r hHr; simp only [World.size_alloc] at h; omega
   ·exact Below.setCell ((a8.alloc (by omega) _).grown hg4 (by simp; omega) (fun r h => by have := hlow r h; omega)) (by show base ≤ w.heap.size; omega) _
 case done =>
  rintro D H ys W hD rfl ⟨ov, a1, a2, a3, a4, a5, a6, a7, a8⟩ hK
  gi_wp2
  refine ⟨by simp, .inl ⟨_, _, rfl, run_takeDeferred hK, ?_⟩⟩
  refine ⟨_, results_tmp rfl _ _ _, ov, rfl, ownsRow_putObj a3 _ hK rfl, a8.grown (grownBy_putObj' W D (.deferred none)) (Nat.le_trans hb a8.size) (fun k e => by cases e; omega)⟩
end Go.Proofs.YthkoaecafmhlcaaGreat
