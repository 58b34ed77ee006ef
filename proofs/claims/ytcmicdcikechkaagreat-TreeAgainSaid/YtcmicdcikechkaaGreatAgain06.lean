import Derived.Test.YtcmicdcikechkaaGreatAgain05
import Derived.Lib.SmallJoins
set_option linter.all false
namespace Go.Proofs.YtcmicdcikechkaaGreat
open Go.RowKit Go.H
set_option maxHeartbeats 1000000
set_option maxRecDepth 100000
section
theorem laid_calls {F : Nat → Prop} {w : World} {v : Value} {l : Bs} (h : BytesAt F w v l) (hn : l.length ≤ 8186) :
    Calls Tryz.prog 101 #[v] w fun e w' => e = .returned (.slice (some ⟨w.heap.size, 0, none⟩) 8192 8192) ∧ w'.heap[w.heap.size]? = some (.cells ((pageB l).map bv).toArray 5 (0, 0)) ∧ Fr C0 w w' := by
  have HR := Lib.hid h
  obtain ⟨A, c, rfl, h1, h2⟩ := h.form
  have hm := mk8k
  clear h
  go_enter Tryz.func101, Tryz.ntmps101
  go_wp2
  have hl64 : IntKind.u64.wrap (l.length : Int) = (l.length : Int) := wraps_u64 _ (by omega) (by omega)
  have HF0 : Hid (Fr C0 w (w.alloc (.cells (zerosV 8192).toArray 5)).drew) := Lib.hid ((Fr.refl C0 w).alloc _).drew
  have HB := Lib.hid (big2_calls l.length (by omega) (w.alloc (.cells (zerosV 8192).toArray 5)).drew)
  have hg0 : (w.alloc (.cells (zerosV 8192).toArray 5)).drew.heap[w.heap.size]? = some (.cells (zerosV 8192).toArray 5 (0, 0)) := heap_alloc_new w _
  have HG0 := Lib.hid hg0
  clear hg0
  refine wp_region_L (Fr (fun b => b = w.heap.size) w) [6] (by kernel_rfl) ?_
  have hSw0 : (Fr (fun b => b = w.heap.size) w) _ := (((Fr.refl (fun b => b = w.heap.size) w).alloc (.cells (zerosV 8192).toArray 5)).drew)
  refine tk 0 hSw0 ?_
  refine tk 1 hSw0 ?_
  refine tk 2 hSw0 ?_
  refine tk 3 hSw0 ?_
  refine tk 4 hSw0 ?_
  refine one_ 5 rfl (fun K hK => ?_)
  go_simp
  refine HB.out.mono ?_
  rintro e w1 ⟨v1, rfl, f1, o1⟩
  simp only []
  refine hK.out _ _ ?kS1 (fun hSw1 => ?kR1)
  case kS1 => exact hSw0.trans0 f1
  clear hK K
  try simp only [Act.put, List.setIfInBounds_toArray, List.set_cons_zero, List.set_cons_succ]
  refine late_ 6 rfl (fun K hK => ?_)
  have src1 := Row.ofOwn o1 (F := fun _ => True) (fun _ _ => trivial)
  refine wp_copy sl_u8 _ _ rfl (g := w.heap.size) (off := 4) (dLen := 8188) (dCap := 8188) rfl rfl (f1.blk HG0.out (fun h => h)) src1 (oneCell_bv _) (by rw [zerosV_length]; omega) ?_
  intro w2 g2 f2
  have hSw2 := hSw1.trans f2 (fun _ _ h => h)
  refine hK.out _ _ ?_; clear hK K
  try simp only [Act.put, List.setIfInBounds_toArray, List.set_cons_zero, List.set_cons_succ]
  refine wpAnyL_done (by kernel_rfl) ?_ _
  have hF2 : Hid (Fr (fun b => b = w.heap.size) w w2) := Lib.hid hSw2
  rw [show min 2 8188 = 2 from rfl, List.take_of_length_le (by rw [List.length_map, bigB_length]; exact Nat.le_refl _)] at g2
  have G2 := Lib.hid g2
  clear g2 o1 src1 HB
  go_wp2_with (go_loud (refine wpl_copy sl_u8 rfl _ _ rfl (g := w.heap.size) (off := 6) (dLen := 8186) (dCap := 8186) rfl rfl G2.out ((HR.out.row.mono (F' := fun b => b < w.heap.size) (fun b _ h => h)).fr hF2.out (fun b hb h => by omega)) (oneCell_bv l) (by simp [splice, zerosV_length, bigB_length]; omega) ?_); intro w3 g3 f3)
  rw [body_splice hn] at g3
  have hbl := bodyB_length hn
  have hF3 : Hid (Fr (fun b => b = w.heap.size) w w3) := Lib.hid (hF2.out.trans f3 (fun _ _ h => h))
  have G3 := Lib.hid g3
  have hbody : BytesAt (fun b => w.heap.size ≤ b) w3 (.slice (some ⟨w.heap.size, 4, none⟩) 8188 8188) (bodyB l) := by
    have := cells_drop (F := fun b => w.heap.size ≤ b) (z := List.replicate 4 0) g3 (Nat.le_refl _) (by rw [hbl]; unfold maxLen; omega)
    rw [hbl] at this
    exact this
  refine (sum_calls hbody (by omega)).mono ?_
  clear g3 f3 G2 hF2
  rintro e w4 ⟨rfl, f4⟩
  have hcu := crc_u (bodyB l)
  obtain ⟨u1, u2⟩ := hcu
  obtain ⟨n, en⟩ := Int.eq_ofNat_of_zero_le u1
  have hc64 : IntKind.u64.wrap (n : Int) = (n : Int) := wraps_u64 _ (by omega) (by omega)
  have G4 := Lib.hid (f4.blk G3.out (fun h => h))
  have HF4 : Hid (Fr (fun b => b = w.heap.size) w w4) := Lib.hid (hF3.out.trans0 f4)
  have HB4 := Lib.hid (big4_calls n (by omega) w4)
  rw [en]
  have EN := Lib.hid en
  clear f4 hbody u1 u2 en
  go_wp2_with fail
  refine HB4.out.mono ?_
  rintro e w5 ⟨v5, rfl, f5, o5⟩
  have src5 := Row.ofOwn o5 (F := fun _ => True) (fun _ _ => trivial)
  have G5 := Lib.hid (f5.blk G4.out (fun h => h))
  go_wp2_with (refine wpl_copy sl_u8 rfl _ _ rfl (g := w.heap.size) (off := 0) (dLen := 8192) (dCap := 8192) rfl rfl G5.out src5 (oneCell_bv _) (by simp [bodyB_length hn]) ?_; intro w6 g6 f6)
  go_ret
  have hF6 : Fr (fun b => b = w.heap.size) w w6 := (HF4.out.trans0 f5).trans f6 (fun _ _ h => h)
  refine ⟨rfl, ?_, ?_⟩
  · rw [g6, page_splice hn _ (bigB_length _ _), pageB, EN.out]; rfl
  · exact hF6.mono (fun b hb h => absurd h (by omega))
end
section
theorem headbytes_calls (w : World) (n root : Nat) (hn : n < 18446744073709551616) (hr : root < 4611686018427387904) :
    Calls Tryz.prog 81 #[.agg #[.int .u64 (n : Int), .int .i64 (root : Int)]] w fun e w' => ∃ v', e = .returned v' ∧ Fr C0 w w' ∧ w'.ownsRow w.heap.size 5 1 v' 20 ((headB n root).map bv) := by
  have H8 := Lib.hid (big8_calls n hn)
  have H4 := Lib.hid (big4_calls root (by omega))
  have H4n := Lib.hid (big4_calls (n % 4294967296) (by omega))
  have ha : bits .and .u64 (n : Int) 4294967295 = ((n % 4294967296 : Nat) : Int) := by rw [and32 (by omega) (by omega)]; omega
  have hw : IntKind.u64.wrap (root : Int) = (root : Int) := wraps_u64 _ (by omega) (by omega)
  have HA := Lib.hid ha
  clear ha
  have hcv := Go.Joins.run_convert_bytes_const_at (P := Tryz.prog) (w.alloc (.cells #[.int .u64 (n : Int), .int .i64 (root : Int)] 81)) 30 5 #[.int .u8 104, .int .u8 101, .int .u8 97, .int .u8 100] 4 4 (w.heap.size + 1) (by simp) Tryz.underlying30 Tryz.underlying5
  go_enter Tryz.func81, Tryz.ntmps81
  go_wp2_with fail
  have hF0 : Fr C0 w ((w.alloc (.cells #[.int .u64 (n : Int), .int .i64 (root : Int)] 81)).alloc (.cells #[.int .u8 104, .int .u8 101, .int .u8 97, .int .u8 100] 5 (4, 5))) := ((Fr.refl C0 w).alloc _).alloc _
  have c0 : ((w.alloc (.cells #[.int .u64 (n : Int), .int .i64 (root : Int)] 81)).alloc (.cells #[.int .u8 104, .int .u8 101, .int .u8 97, .int .u8 100] 5 (4, 5))).cell? ⟨w.heap.size, 1, none⟩ = some (.int .i64 (root : Int)) := ((Fr.refl C0 _).alloc _).cell0 (blk_cell (heap_alloc_new w (.cells #[.int .u64 (n : Int), .int .i64 (root : Int)] 81)) 1 rfl)
  have c1 : ((w.alloc (.cells #[.int .u64 (n : Int), .int .i64 (root : Int)] 81)).alloc (.cells #[.int .u8 104, .int .u8 101, .int .u8 97, .int .u8 100] 5 (4, 5))).cell? ⟨w.heap.size, 0, none⟩ = some (.int .u64 (n : Int)) := ((Fr.refl C0 _).alloc _).cell0 (blk_cell (heap_alloc_new w (.cells #[.int .u64 (n : Int), .int .i64 (root : Int)] 81)) 0 rfl)
  have hb1 : ((w.alloc (.cells #[.int .u64 (n : Int), .int .i64 (root : Int)] 81)).alloc (.cells #[.int .u8 104, .int .u8 101, .int .u8 97, .int .u8 100] 5 (4, 5))).heap[w.heap.size + 1]? = some (.cells #[.int .u8 104, .int .u8 101, .int .u8 97, .int .u8 100] 5 (4, 5)) := by
    have := heap_alloc_new (w.alloc (.cells #[.int .u64 (n : Int), .int .i64 (root : Int)] 81)) (.cells #[.int .u8 104, .int .u8 101, .int .u8 97, .int .u8 100] 5 (4, 5))
    simpa using this
  have hsz : w.heap.size + 1 < ((w.alloc (.cells #[.int .u64 (n : Int), .int .i64 (root : Int)] 81)).alloc (.cells #[.int .u8 104, .int .u8 101, .int .u8 97, .int .u8 100] 5 (4, 5))).heap.size := by simp
  generalize ((w.alloc (.cells #[.int .u64 (n : Int), .int .i64 (root : Int)] 81)).alloc (.cells #[.int .u8 104, .int .u8 101, .int .u8 97, .int .u8 100] 5 (4, 5))) = w1 at *
  have own0 : Row (fun _ => True) w1 (.slice (some ⟨w.heap.size + 1, 0, none⟩) 4 4) 4 1 (([104, 101, 97, 100] : Bs).map bv) := by
    have := Row.ofBlock (F := fun _ => True) (n := 4) (size := 1) hb1 trivial (by unfold maxLen; omega) rfl
    simpa [bv] using this
  have HF0 := Lib.hid hF0
  clear hF0
  refine (H8.out w1).mono ?_
  rintro e w2 ⟨v2, rfl, f2, o2⟩
  have d0 := f2.cell0 c0
  have d1 := f2.cell0 c1
  have OW := Lib.hid (own0.fr0 f2)
  have src2 := Lib.hid (Row.ofOwn o2 (F := fun _ => True) (fun _ _ => trivial))
  clear o2 own0 hb1 c0 c1
  have hz4 : 0 < 4 := by omega
  have hz8 : 0 < 8 := by omega
  have hz120 : 4 + 8 ≤ maxLen := by unfold maxLen; omega
  have hz121 : (4 + 8) * 1 ≤ 140737488355328 := by omega
  go_wp2_with (at_builtin; go_must (refine wpl_appF sl_u8 rfl _ _ rfl (A := some ⟨w.heap.size + 1, 0, none⟩) (n := 4) (m := 8) (xv := v2) rfl rfl OW.out hz4 src2.out hz8 hz120 hz121 ?_); intro v3 w3 o3 f3; have d0 := f3.cell0 d0; have d1 := f3.cell0 d1)
  have HF3 : Hid (Fr C0 w w3) := Lib.hid ((HF0.out.trans0 f2).trans0 f3)
  have hs2 := f2.size
  have hs3 := f3.size
  have O3 := Lib.hid (own_base o3 (B' := w.heap.size + 1) (fun b hb => by have := (o3.lt b hb).1; omega))
  clear o3 OW src2
  refine (H4.out w3).mono ?_
  rintro e w4 ⟨v4, rfl, f4, o4⟩
  have d0 := f4.cell0 d0
  have d1 := f4.cell0 d1
  have O4 := Lib.hid (own_kept O3.out f4 (fun _ _ h => h))
  have src4 := Lib.hid (Row.ofOwn o4 (F := fun _ => True) (fun _ _ => trivial))
  clear o4 O3
  have hs4 := f4.size
  have hz12 : 4 + 8 + 4 ≤ maxLen := by unfold maxLen; omega
  have hz13 : w.heap.size + 1 ≤ w4.heap.size := by omega
  go_wp2_with (at_builtin; go_must (refine wpl_app sl_u8 rfl _ _ rfl (v := v3) (xv := v4) rfl rfl (B := w.heap.size + 1) O4.out src4.out (oneCell_bv (bigB root 4)) hz12 (by omega) hz13 ?_); intro v5 w5 o5 f5 k5 nil5; have d1 := f5.cellO O4.out d1 (Nat.lt_succ_self _))
  have HF5 : Hid (Fr C0 w w5) := Lib.hid ((HF3.out.trans0 f4).transO f5 (fun b e => by have := (O4.out.lt b e).1; omega))
  have O5 := Lib.hid o5
  have hs5 := f5.size
  clear o5 O4 src4
  rw [HA.out]
  refine (H4n.out w5).mono ?_
  rintro e w6 ⟨v6, rfl, f6, o6⟩
  have O6 := Lib.hid (own_kept O5.out f6 (fun _ _ h => h))
  have src6 := Lib.hid (Row.ofOwn o6 (F := fun _ => True) (fun _ _ => trivial))
  have hz14 : 4 + 8 + 4 + 4 ≤ maxLen := by unfold maxLen; omega
  have hs6 := f6.size
  have hz15 : w.heap.size + 1 ≤ w6.heap.size := by omega
  clear o6 O5
  go_wp2_with (at_builtin; go_must (refine wpl_app sl_u8 rfl _ _ rfl (v := v5) (xv := v6) rfl rfl (B := w.heap.size + 1) O6.out src6.out (oneCell_bv (bigB (n % 4294967296) 4)) hz14 (by omega) hz15 ?_); intro v7 w7 o7 f7 k7 nil7)
  go_ret
  refine ⟨v7, rfl, (HF5.out.trans0 f6).transO f7 (fun b e => by have := (O6.out.lt b e).1; omega), ?_⟩
  have := own_base o7 (B' := w.heap.size) (fun b hb => by have := (o7.lt b hb).1; omega)
  simpa [headB] using this
end
end Go.Proofs.YtcmicdcikechkaaGreat
