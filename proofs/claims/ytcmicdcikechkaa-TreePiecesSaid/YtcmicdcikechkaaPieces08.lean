import Derived.Test.YtcmicdcikechkaaPieces07
set_option linter.all false
section
namespace Go.Proofs.Ytcmicdcikechkaa
open Go.RowKit Go.H
set_option maxHeartbeats 1000000
set_option maxRecDepth 100000
theorem zeroB_calls {F : Nat → Prop} {w : World} {v : Value} {l : Bs} (h : BytesAt F w v l) (hn : l.length ≤ 100000) :
    Calls Try.prog 94 #[v] w fun e w' => e = .returned (.bool (zeroB l)) ∧ Fr C0 w w' := zero_calls h hn
theorem intne1 (R : Nat) : ((R : Int) != 1) = !decide (R = 1) := by
  by_cases h : R = 1
  · simp [h]
  · have : ¬ (R : Int) = 1 := by omega
    simp [h, this]
theorem inteq0 (R : Nat) : ((R : Int) == 0) = decide (R = 0) := by
  by_cases h : R = 0
  · simp [h]
  · have : ¬ (R : Int) = 0 := by omega
    simp [h, this]
theorem readHead_calls {w : World} {g blocks : Nat} {b : Bs} (hg : w.heap[g]? = some (.cells (b.map bv).toArray 5 (0, 0))) (hb : b.length = 8192) (hbl : blocks ≤ 4096) :
    Calls Try.prog 78 #[.slice (some ⟨g, 0, none⟩) 8192 8192, .int .i64 (blocks : Int)] w fun e w' => e = .returned (.tuple #[.agg #[.int .u64 ((readHeadF b blocks).1.1 : Int), .int .i64 ((readHeadF b blocks).1.2 : Int)], .bool (readHeadF b blocks).2]) ∧ Fr C0 w w' := by
  have HG := Lib.hid hg
  have hall := cells_all hg (by rw [hb]; unfold maxLen; omega)
  rw [hb] at hall
  clear hg
  go_enter Try.func78, Try.ntmps78
  go_wp2_with fail
  refine (zeroB_calls (hall.fr0 ((Fr.refl C0 w).alloc _)) (by omega)).mono ?_
  rintro e w1 ⟨rfl, f1⟩
  have hres : w1.heap[w.heap.size]? = some (.cells #[.int .u64 0, .int .i64 0] 89 (0, 0)) := f1.blk (heap_alloc_new w _) (fun h => h)
  have r0 := blk_cell hres 0 rfl
  have r1 := blk_cell hres 1 rfl
  have z0 := blk_free 0 hres
  have z1 := blk_free 1 hres
  cases hz : zeroB b with
  | true =>
    go_wp2
    have h2 := blk_set (i := 1) (blk_set (i := 0) hres (.int .u64 0)) (.int .i64 0)
    refine ret_cell_tmp rfl rfl h2 Try.underlying89 rfl (by kernel_rfl) rfl ?_
    refine ⟨by simp [readHeadF, hz], ?_⟩
    exact (((Fr.refl C0 w).alloc _).trans0 f1).setCell (.inl (Nat.le_refl _)) _ |>.setCell (.inl (Nat.le_refl _)) _
  | false =>
    have G1 := Lib.hid ((((Fr.refl C0 w).alloc _).trans0 f1).blk HG.out (fun h => h))
    have s1 := cells_sub (o := 4) (n := 8) (c := 8188) G1.out (by omega) (by omega) (by unfold maxLen; omega)
    have s2 := cells_sub (o := 12) (n := 4) (c := 8180) G1.out (by omega) (by omega) (by unfold maxLen; omega)
    have s3 := cells_sub (o := 0) (n := 20) (c := 8192) G1.out (by omega) (by omega) (by unfold maxLen; omega)
    have s4 := cells_sub (o := 20) (n := 8172) (c := 8172) G1.out (by omega) (by omega) (by unfold maxLen; omega)
    rw [List.drop_zero] at s3
    rw [List.take_of_length_le (by rw [List.length_drop]; omega)] at s4
    have l4 : (b.drop 20).length = 8172 := by rw [List.length_drop]; omega
    have l1 : ((b.drop 4).take 8).length = 8 := by simp [hb]
    have l2 : ((b.drop 12).take 4).length = 4 := by simp [hb]
    have n1 := smallN_lt ((b.drop 4).take 8)
    have n2 := smallN_lt ((b.drop 12).take 4)
    rw [l1] at n1
    rw [l2] at n2
    have S1 := Lib.hid (fun (w_ : World) (h : Fr C0 w1 w_) => small_calls (s1.fr0 h) (by omega))
    have S2 := Lib.hid (fun (w_ : World) (h : Fr C0 w1 w_) => small_calls (s2.fr0 h) (by omega))
    have S3 := Lib.hid s3
    have S4 := Lib.hid s4
    clear s1 s2 s3 s4
    go_wp2
    refine wp_region_L (Fr C0 w1) [9] (by kernel_rfl) ?_
    have hSw0 : (Fr C0 w1) _ := (Fr.refl C0 w1).drew
    refine wpAnyL_take 0 (oi := ⟨(some 11), (.move (.tmp 0)), 23, "page.go:106", #[], none⟩) (v := ?v_1) rfl (by kernel_rfl) (fun _ _ _ h => h) hSw0 (yieldsIf_of rfl ?hy_1) ?hrest_1
    case hy_1 => (intro w_ hS_; (first | (go_simp; done) | (go_simp; with_reducible rfl)))
    try simp only [Act.put, List.setIfInBounds_toArray, List.set_cons_zero, List.set_cons_succ]
    refine wpAnyL_take 1 (oi := ⟨(some 12), (.slice 23 (.tmp 11) (some (.const (.int .i64 4))) (some (.const (.int .i64 12))) none), 23, "page.go:106", #[⟨0, .data⟩], none⟩) (v := ?v_2) rfl (by kernel_rfl) (fun _ _ _ h => h) hSw0 (yieldsIf_of rfl ?hy_2) ?hrest_2
    case hy_2 => (intro w_ hS_; (first | (go_simp; done) | (go_simp; with_reducible rfl)))
    try simp only [Act.put, List.setIfInBounds_toArray, List.set_cons_zero, List.set_cons_succ]
    refine wpAnyL_take 3 (oi := ⟨(some 14), (.move (.tmp 0)), 23, "page.go:106", #[], none⟩) (v := ?v_3) rfl (by kernel_rfl) (fun _ _ _ h => h) hSw0 (yieldsIf_of rfl ?hy_3) ?hrest_3
    case hy_3 => (intro w_ hS_; (first | (go_simp; done) | (go_simp; with_reducible rfl)))
    try simp only [Act.put, List.setIfInBounds_toArray, List.set_cons_zero, List.set_cons_succ]
    refine wpAnyL_take 4 (oi := ⟨(some 15), (.slice 23 (.tmp 14) (some (.const (.int .i64 12))) (some (.const (.int .i64 16))) none), 23, "page.go:106", #[⟨3, .data⟩], none⟩) (v := ?v_4) rfl (by kernel_rfl) (fun _ _ _ h => h) hSw0 (yieldsIf_of rfl ?hy_4) ?hrest_4
    case hy_4 => (intro w_ hS_; (first | (go_simp; done) | (go_simp; with_reducible rfl)))
    try simp only [Act.put, List.setIfInBounds_toArray, List.set_cons_zero, List.set_cons_succ]
    refine wpAnyL_two 2 8 (oi := ⟨(some 13), (.call ⟨(.value (.func 95)), #[(.tmp 12)], #[23]⟩), 87, "page.go:106", #[⟨1, .data⟩], none⟩) (oj := ⟨(some 6), (.alloc 89), 0, "page.go:106", #[], none⟩) rfl rfl (by kernel_rfl) rfl rfl (fun K hK => ?_) (fun K hK => ?_)
    · skip
      go_simp
      refine (S1.out _ (by assumption)).mono ?_
      rintro e w2 ⟨rfl, rfl⟩
      simp only []
      refine hK.out _ _ ?kS5 (fun hSw1 => ?kR5)
      case kS5 => assumption
      clear hK K
      try simp only [Act.put, List.setIfInBounds_toArray, List.set_cons_zero, List.set_cons_succ]
      refine wpAnyL_two 5 8 (oi := ⟨(some 16), (.call ⟨(.value (.func 95)), #[(.tmp 15)], #[23]⟩), 87, "page.go:106", #[⟨4, .data⟩, ⟨2, .chain⟩], none⟩) (oj := ⟨(some 6), (.alloc 89), 0, "page.go:106", #[], none⟩) rfl rfl (by kernel_rfl) rfl rfl (fun K hK => ?_) (fun K hK => ?_)
      · skip
        go_simp
        refine (S2.out _ (by assumption)).mono ?_
        rintro e w2 ⟨rfl, rfl⟩
        simp only []
        refine hK.out _ _ ?kS6 (fun hSw2 => ?kR6)
        case kS6 => assumption
        clear hK K
        try simp only [Act.put, List.setIfInBounds_toArray, List.set_cons_zero, List.set_cons_succ]
        refine wpAnyL_take 6 (oi := ⟨(some 17), (.convert 87 3 (.tmp 16)), 3, "page.go:106", #[⟨5, .data⟩], none⟩) (v := ?v_7) rfl (by kernel_rfl) (fun _ _ _ h => h) hSw2 (yieldsIf_of rfl ?hy_7) ?hrest_7
        case hy_7 => (intro w_ hS_; (first | (go_simp; done) | (go_simp; with_reducible rfl)))
        try simp only [Act.put, List.setIfInBounds_toArray, List.set_cons_zero, List.set_cons_succ]
        refine wpAnyL_take 7 (oi := ⟨(some 18), (.build 89 #[(0, (.tmp 13)), (1, (.tmp 17))]), 89, "page.go:106", #[⟨2, .data⟩, ⟨6, .data⟩], none⟩) (v := ?v_8) rfl (by kernel_rfl) (fun _ _ _ h => h) hSw2 (yieldsIf_of rfl ?hy_8) ?hrest_8
        case hy_8 => (intro w_ hS_; (first | (go_simp; done) | (go_simp; with_reducible rfl)))
        try simp only [Act.put, List.setIfInBounds_toArray, List.set_cons_zero, List.set_cons_succ]
        refine wpAnyL_one 8 (o := ⟨(some 6), (.alloc 89), 0, "page.go:106", #[], none⟩) rfl (by kernel_rfl) rfl (by kernel_rfl) (fun K hK => ?_)
        go_simp
        refine hK.out _ _ ?kS9 (fun hSw3 => ?kR9)
        case kS9 => exact Fr.alloc (by assumption) _
        clear hK K
        try simp only [Act.put, List.setIfInBounds_toArray, List.set_cons_zero, List.set_cons_succ]
        refine wpAnyL_late 9 (o := ⟨none, (.store 89 (.tmp 6) (.tmp 18)), 0, "page.go:106", #[⟨8, .data⟩, ⟨7, .data⟩, ⟨5, .chain⟩, ⟨0, .phase⟩, ⟨1, .phase⟩, ⟨2, .phase⟩, ⟨3, .phase⟩, ⟨4, .phase⟩, ⟨5, .phase⟩, ⟨6, .phase⟩, ⟨7, .phase⟩, ⟨8, .phase⟩], none⟩) rfl (by kernel_rfl) rfl (by kernel_rfl) (fun K hK => ?_)
        go_simp
        refine hK.out _ _ ?_; clear hK K
        try simp only [Act.put, List.setIfInBounds_toArray, List.set_cons_zero, List.set_cons_succ]
        refine wpAnyL_done (by kernel_rfl) ?_ _
        have hw2 : IntKind.i64.wrap (smallN ((b.drop 12).take 4) : Int) = (smallN ((b.drop 12).take 4) : Int) := by rw [IntWalk.i64_in _ (by omega)]
        rw [hw2]
        generalize hn1 : smallN ((b.drop 4).take 8) = N at *
        generalize hn2 : smallN ((b.drop 12).take 4) = R at *
        have F2 := ((Fr.refl C0 w1).alloc (.cells #[.int .u64 (N : Int), .int .i64 (R : Int)] 89)).drew
        have hblk : (w1.alloc (.cells #[.int .u64 (N : Int), .int .i64 (R : Int)] 89)).drew.heap[w1.heap.size]? = some (.cells #[.int .u64 (N : Int), .int .i64 (R : Int)] 89 (0, 0)) := heap_alloc_new w1 _
        have f2h : Fr C0 w1 (w1.alloc (.cells #[.int .u64 (N : Int), .int .i64 (R : Int)] 89)).drew := F2
        generalize (w1.alloc (.cells #[.int .u64 (N : Int), .int .i64 (R : Int)] 89)).drew = w2 at *
        have HHB := Lib.hid (fun (w_ : World) => headbytes_calls w_ N R (by omega) (by omega))
        have hgl : g < w2.heap.size := by have := (Array.getElem?_eq_some_iff.1 G1.out).1; have := F2.size; omega
        have k0 := blk_cell hblk 0 rfl
        have k1 := blk_cell hblk 1 rfl
        go_wp2
        by_cases heq : b.take 20 = headB N R
        · have hd : decide (b.take 20 = headB N R) = true := by simp [heq]
          refine wp_region_L (Fr C0 w2) [] (by kernel_rfl) ?_
          have hSw0 : (Fr C0 w2) _ := (Fr.refl C0 w2).drew
          refine wpAnyL_take 0 (oi := ⟨(some 19), (.move (.tmp 0)), 23, "page.go:107", #[], none⟩) (v := ?v_10) rfl (by kernel_rfl) (fun _ _ _ h => h) hSw0 (yieldsIf_of rfl ?hy_10) ?hrest_10
          case hy_10 => (intro w_ hS_; (first | (go_simp; done) | (go_simp; with_reducible rfl)))
          try simp only [Act.put, List.setIfInBounds_toArray, List.set_cons_zero, List.set_cons_succ]
          refine wpAnyL_take 1 (oi := ⟨(some 20), (.slice 23 (.tmp 19) none (some (.const (.int .i64 20))) none), 23, "page.go:107", #[⟨0, .data⟩], none⟩) (v := ?v_11) rfl (by kernel_rfl) (fun _ _ _ h => h) hSw0 (yieldsIf_of rfl ?hy_11) ?hrest_11
          case hy_11 => (intro w_ hS_; (first | (go_simp; done) | (go_simp; with_reducible rfl)))
          try simp only [Act.put, List.setIfInBounds_toArray, List.set_cons_zero, List.set_cons_succ]
          refine wpAnyL_take 2 (oi := ⟨(some 21), (.load 89 (.tmp 6)), 89, "page.go:107", #[], none⟩) (v := ?v_12) rfl (by kernel_rfl) (fun _ _ _ h => h) hSw0 (yieldsIf_of rfl ?hy_12) ?hrest_12
          case hy_12 => (intro w_ hS_; have j0 := hS_.cell0 k0; have j1 := hS_.cell0 k1; (first | (go_simp; done) | (go_simp; with_reducible rfl)))
          try simp only [Act.put, List.setIfInBounds_toArray, List.set_cons_zero, List.set_cons_succ]
          refine wpAnyL_one 3 (o := ⟨(some 22), (.call ⟨(.value (.func 71)), #[(.tmp 21)], #[89]⟩), 23, "page.go:107", #[⟨2, .data⟩], none⟩) rfl (by kernel_rfl) rfl (by kernel_rfl) (fun K hK => ?_)
          go_simp
          refine (HHB.out _).mono ?_
          rintro e w3 ⟨v3, rfl, f3, o3⟩
          simp only []
          refine hK.out _ _ ?kS13 (fun hSw1 => ?kR13)
          case kS13 => exact Fr.trans0 (by assumption) f3
          clear hK K
          try simp only [Act.put, List.setIfInBounds_toArray, List.set_cons_zero, List.set_cons_succ]
          refine wpAnyL_one 4 (o := ⟨(some 23), (.call ⟨(.value (.func 96)), #[(.tmp 20), (.tmp 22)], #[23, 23]⟩), 4, "page.go:107", #[⟨1, .data⟩, ⟨3, .data⟩, ⟨3, .chain⟩], none⟩) rfl (by kernel_rfl) rfl (by kernel_rfl) (fun K hK => ?_)
          go_simp
          refine (equal_calls ((S3.out.fr0 F2).fr0 (show Fr C0 w2 _ by assumption)) (G := fun _ => True) (b := headB N R) (bytesAt_row.2 (by rw [headB_length]; exact Row.ofOwn o3 (fun _ _ => trivial)))).mono ?_
          rintro e w4 ⟨rfl, rfl⟩
          rw [hd]
          simp only []
          refine hK.out _ _ ?kS14 (fun hSw2 => ?kR14)
          case kS14 => assumption
          clear hK K
          try simp only [Act.put, List.setIfInBounds_toArray, List.set_cons_zero, List.set_cons_succ]
          refine wpAnyL_take 5 (oi := ⟨(some 24), (.move (.tmp 23)), 4, "page.go:107", #[⟨4, .data⟩, ⟨4, .chain⟩], none⟩) (v := ?v_15) rfl (by kernel_rfl) (fun _ _ _ h => h) hSw2 (yieldsIf_of rfl ?hy_15) ?hrest_15
          case hy_15 => (intro w_ hS_; (first | (go_simp; done) | (go_simp; with_reducible rfl)))
          try simp only [Act.put, List.setIfInBounds_toArray, List.set_cons_zero, List.set_cons_succ]
          refine wpAnyL_take 6 (oi := ⟨(some 25), (.move (.tmp 0)), 23, "page.go:107", #[⟨5, .guard⟩], (some (5, true))⟩) (v := ?v_16) rfl (by kernel_rfl) (fun _ _ _ h => h) hSw2 (yieldsIf_of rfl ?hy_16) ?hrest_16
          case hy_16 => (intro w_ hS_; (first | (go_simp; done) | (go_simp; with_reducible rfl)))
          try simp only [Act.put, List.setIfInBounds_toArray, List.set_cons_zero, List.set_cons_succ]
          refine wpAnyL_take 7 (oi := ⟨(some 26), (.slice 23 (.tmp 25) (some (.const (.int .i64 20))) none none), 23, "page.go:107", #[⟨6, .data⟩, ⟨5, .guard⟩], (some (5, true))⟩) (v := ?v_17) rfl (by kernel_rfl) (fun _ _ _ h => h) hSw2 (yieldsIf_of rfl ?hy_17) ?hrest_17
          case hy_17 => (intro w_ hS_; (first | (go_simp; done) | (go_simp; with_reducible rfl)))
          try simp only [Act.put, List.setIfInBounds_toArray, List.set_cons_zero, List.set_cons_succ]
          refine wpAnyL_one 8 (o := ⟨(some 27), (.call ⟨(.value (.func 94)), #[(.tmp 26)], #[23]⟩), 4, "page.go:107", #[⟨7, .data⟩, ⟨5, .chain⟩, ⟨5, .guard⟩], (some (5, true))⟩) rfl (by kernel_rfl) rfl (by kernel_rfl) (fun K hK => ?_)
          go_simp
          refine (zeroB_calls ((S4.out.fr0 F2).fr0 (show Fr C0 w2 _ by assumption)) (by omega)).mono ?_
          rintro e w5 ⟨rfl, f5⟩
          simp only []
          have F5 : Hid (Fr C0 w2 w5) := Lib.hid (Fr.trans0 (by assumption) f5)
          refine hK.out _ _ ?kS18 (fun hSw3 => ?kR18)
          case kS18 => exact F5.out
          clear hK K
          try simp only [Act.put, List.setIfInBounds_toArray, List.set_cons_zero, List.set_cons_succ]
          refine wpAnyL_take 9 (oi := ⟨(some 28), (.pick (.tmp 24) (.tmp 27) (.const (.bool false))), 4, "page.go:107", #[⟨5, .data⟩, ⟨8, .data⟩], none⟩) (v := ?v_19) rfl (by kernel_rfl) (fun _ _ _ h => h) hSw3 (yieldsIf_of rfl ?hy_19) ?hrest_19
          case hy_19 => (intro w_ hS_; (first | (go_simp; done) | (go_simp; with_reducible rfl)))
          try simp only [Act.put, List.setIfInBounds_toArray, List.set_cons_zero, List.set_cons_succ]
          refine wpAnyL_take 10 (oi := ⟨(some 7), (.assign (.tmp 28)), 4, "page.go:107", #[⟨9, .data⟩, ⟨8, .chain⟩, ⟨0, .phase⟩, ⟨1, .phase⟩, ⟨2, .phase⟩, ⟨3, .phase⟩, ⟨4, .phase⟩, ⟨5, .phase⟩, ⟨6, .phase⟩, ⟨7, .phase⟩, ⟨8, .phase⟩, ⟨9, .phase⟩], none⟩) (v := ?v_20) rfl (by kernel_rfl) (fun _ _ _ h => h) hSw3 (yieldsIf_of rfl ?hy_20) ?hrest_20
          case hy_20 => (intro w_ hS_; (first | (go_simp; done) | (go_simp; with_reducible rfl)))
          try simp only [Act.put, List.setIfInBounds_toArray, List.set_cons_zero, List.set_cons_succ]
          refine wpAnyL_done (by kernel_rfl) ?_ _
          have hres5 := (f2h.trans0 F5.out).blk hres (fun h => h)
          have k0 := F5.out.cell0 k0
          have k1 := F5.out.cell0 k1
          have r0 := blk_cell hres5 0 rfl
          have r1 := blk_cell hres5 1 rfl
          have z0 := blk_free 0 hres5
          have z1 := blk_free 1 hres5
          have FW := Lib.hid ((((Fr.refl C0 w).alloc (.cells #[.int .u64 0, .int .i64 0] 89)).trans0 f1).trans0 (f2h.trans0 F5.out))
          go_wp2
          all_goals
            refine ret_cell_tmp rfl rfl (blk_set (i := 1) (blk_set (i := 0) hres5 _) _) Try.underlying89 rfl (by kernel_rfl) rfl ?_
            refine ⟨?_, (FW.out.setCell (.inl (Nat.le_refl _)) _).setCell (.inl (Nat.le_refl _)) _⟩
            simp [readHeadF, hz, headFine, headOf, hn1, hn2, heq, *]
          all_goals first
            | omega
            | (simp only [intne1, inteq0]; done)
            | (simp only [intne1, inteq0]; simp; omega)
        · have hd : decide (b.take 20 = headB N R) = false := by simp [heq]
          refine wp_region_L (Fr C0 w2) [] (by kernel_rfl) ?_
          have hSw0 : (Fr C0 w2) _ := (Fr.refl C0 w2).drew
          refine wpAnyL_take 0 (oi := ⟨(some 19), (.move (.tmp 0)), 23, "page.go:107", #[], none⟩) (v := ?v_21) rfl (by kernel_rfl) (fun _ _ _ h => h) hSw0 (yieldsIf_of rfl ?hy_21) ?hrest_21
          case hy_21 => (intro w_ hS_; (first | (go_simp; done) | (go_simp; with_reducible rfl)))
          try simp only [Act.put, List.setIfInBounds_toArray, List.set_cons_zero, List.set_cons_succ]
          refine wpAnyL_take 1 (oi := ⟨(some 20), (.slice 23 (.tmp 19) none (some (.const (.int .i64 20))) none), 23, "page.go:107", #[⟨0, .data⟩], none⟩) (v := ?v_22) rfl (by kernel_rfl) (fun _ _ _ h => h) hSw0 (yieldsIf_of rfl ?hy_22) ?hrest_22
          case hy_22 => (intro w_ hS_; (first | (go_simp; done) | (go_simp; with_reducible rfl)))
          try simp only [Act.put, List.setIfInBounds_toArray, List.set_cons_zero, List.set_cons_succ]
          refine wpAnyL_take 2 (oi := ⟨(some 21), (.load 89 (.tmp 6)), 89, "page.go:107", #[], none⟩) (v := ?v_23) rfl (by kernel_rfl) (fun _ _ _ h => h) hSw0 (yieldsIf_of rfl ?hy_23) ?hrest_23
          case hy_23 => (intro w_ hS_; have j0 := hS_.cell0 k0; have j1 := hS_.cell0 k1; (first | (go_simp; done) | (go_simp; with_reducible rfl)))
          try simp only [Act.put, List.setIfInBounds_toArray, List.set_cons_zero, List.set_cons_succ]
          refine wpAnyL_one 3 (o := ⟨(some 22), (.call ⟨(.value (.func 71)), #[(.tmp 21)], #[89]⟩), 23, "page.go:107", #[⟨2, .data⟩], none⟩) rfl (by kernel_rfl) rfl (by kernel_rfl) (fun K hK => ?_)
          go_simp
          refine (HHB.out _).mono ?_
          rintro e w3 ⟨v3, rfl, f3, o3⟩
          simp only []
          have F5 : Hid (Fr C0 w2 w3) := Lib.hid (Fr.trans0 (by assumption) f3)
          refine hK.out _ _ ?kS24 (fun hSw1 => ?kR24)
          case kS24 => exact F5.out
          clear hK K
          try simp only [Act.put, List.setIfInBounds_toArray, List.set_cons_zero, List.set_cons_succ]
          refine wpAnyL_one 4 (o := ⟨(some 23), (.call ⟨(.value (.func 96)), #[(.tmp 20), (.tmp 22)], #[23, 23]⟩), 4, "page.go:107", #[⟨1, .data⟩, ⟨3, .data⟩, ⟨3, .chain⟩], none⟩) rfl (by kernel_rfl) rfl (by kernel_rfl) (fun K hK => ?_)
          go_simp
          refine (equal_calls ((S3.out.fr0 F2).fr0 F5.out) (G := fun _ => True) (b := headB N R) (bytesAt_row.2 (by rw [headB_length]; exact Row.ofOwn o3 (fun _ _ => trivial)))).mono ?_
          rintro e w4 ⟨rfl, rfl⟩
          rw [hd]
          simp only []
          refine hK.out _ _ ?kS25 (fun hSw2 => ?kR25)
          case kS25 => assumption
          clear hK K
          try simp only [Act.put, List.setIfInBounds_toArray, List.set_cons_zero, List.set_cons_succ]
          refine wpAnyL_take 5 (oi := ⟨(some 24), (.move (.tmp 23)), 4, "page.go:107", #[⟨4, .data⟩, ⟨4, .chain⟩], none⟩) (v := ?v_26) rfl (by kernel_rfl) (fun _ _ _ h => h) hSw2 (yieldsIf_of rfl ?hy_26) ?hrest_26
          case hy_26 => (intro w_ hS_; (first | (go_simp; done) | (go_simp; with_reducible rfl)))
          try simp only [Act.put, List.setIfInBounds_toArray, List.set_cons_zero, List.set_cons_succ]
          refine wpAnyL_take 6 (oi := ⟨(some 25), (.move (.tmp 0)), 23, "page.go:107", #[⟨5, .guard⟩], (some (5, true))⟩)  rfl (by kernel_rfl) (fun _ _ _ h => h) hSw2 (yieldsIf_skip rfl) ?hrest_27
          try simp only [Act.put, List.setIfInBounds_toArray, List.set_cons_zero, List.set_cons_succ]
          refine wpAnyL_take 7 (oi := ⟨(some 26), (.slice 23 (.tmp 25) (some (.const (.int .i64 20))) none none), 23, "page.go:107", #[⟨6, .data⟩, ⟨5, .guard⟩], (some (5, true))⟩)  rfl (by kernel_rfl) (fun _ _ _ h => h) hSw2 (yieldsIf_skip rfl) ?hrest_28
          try simp only [Act.put, List.setIfInBounds_toArray, List.set_cons_zero, List.set_cons_succ]
          refine wpAnyL_take 8 (oi := ⟨(some 27), (.call ⟨(.value (.func 94)), #[(.tmp 26)], #[23]⟩), 4, "page.go:107", #[⟨7, .data⟩, ⟨5, .chain⟩, ⟨5, .guard⟩], (some (5, true))⟩)  rfl (by kernel_rfl) (fun _ _ _ h => h) hSw2 (yieldsIf_skip rfl) ?hrest_29
          try simp only [Act.put, List.setIfInBounds_toArray, List.set_cons_zero, List.set_cons_succ]
          refine wpAnyL_take 9 (oi := ⟨(some 28), (.pick (.tmp 24) (.tmp 27) (.const (.bool false))), 4, "page.go:107", #[⟨5, .data⟩, ⟨8, .data⟩], none⟩) (v := ?v_30) rfl (by kernel_rfl) (fun _ _ _ h => h) hSw2 (yieldsIf_of rfl ?hy_30) ?hrest_30
          case hy_30 => (intro w_ hS_; (first | (go_simp; done) | (go_simp; with_reducible rfl)))
          try simp only [Act.put, List.setIfInBounds_toArray, List.set_cons_zero, List.set_cons_succ]
          refine wpAnyL_take 10 (oi := ⟨(some 7), (.assign (.tmp 28)), 4, "page.go:107", #[⟨9, .data⟩, ⟨8, .chain⟩, ⟨0, .phase⟩, ⟨1, .phase⟩, ⟨2, .phase⟩, ⟨3, .phase⟩, ⟨4, .phase⟩, ⟨5, .phase⟩, ⟨6, .phase⟩, ⟨7, .phase⟩, ⟨8, .phase⟩, ⟨9, .phase⟩], none⟩) (v := ?v_31) rfl (by kernel_rfl) (fun _ _ _ h => h) hSw2 (yieldsIf_of rfl ?hy_31) ?hrest_31
          case hy_31 => (intro w_ hS_; (first | (go_simp; done) | (go_simp; with_reducible rfl)))
          try simp only [Act.put, List.setIfInBounds_toArray, List.set_cons_zero, List.set_cons_succ]
          refine wpAnyL_done (by kernel_rfl) ?_ _
          have hres5 := (f2h.trans0 F5.out).blk hres (fun h => h)
          have k0 := F5.out.cell0 k0
          have k1 := F5.out.cell0 k1
          have r0 := blk_cell hres5 0 rfl
          have r1 := blk_cell hres5 1 rfl
          have z0 := blk_free 0 hres5
          have z1 := blk_free 1 hres5
          have FW := Lib.hid ((((Fr.refl C0 w).alloc (.cells #[.int .u64 0, .int .i64 0] 89)).trans0 f1).trans0 (f2h.trans0 F5.out))
          go_wp2
          all_goals
            refine ret_cell_tmp rfl rfl (blk_set (i := 1) (blk_set (i := 0) hres5 _) _) Try.underlying89 rfl (by kernel_rfl) rfl ?_
            refine ⟨?_, (FW.out.setCell (.inl (Nat.le_refl _)) _).setCell (.inl (Nat.le_refl _)) _⟩
            simp [readHeadF, hz, headFine, headOf, hn1, hn2, heq]
      · skip
        go_simp
        refine hK.out _ _ ?kS32 (fun hSw5 => ?kR32)
        case kS32 => exact Fr.alloc (by assumption) _
        clear hK K
        try simp only [Act.put, List.setIfInBounds_toArray, List.set_cons_zero, List.set_cons_succ]
        refine wpAnyL_one 5 (o := ⟨(some 16), (.call ⟨(.value (.func 95)), #[(.tmp 15)], #[23]⟩), 87, "page.go:106", #[⟨4, .data⟩, ⟨2, .chain⟩], none⟩) rfl (by kernel_rfl) rfl (by kernel_rfl) (fun K hK => ?_)
        go_simp
        refine (S2.out _ (by assumption)).mono ?_
        rintro e w2 ⟨rfl, rfl⟩
        simp only []
        refine hK.out _ _ ?kS33 (fun hSw6 => ?kR33)
        case kS33 => assumption
        clear hK K
        try simp only [Act.put, List.setIfInBounds_toArray, List.set_cons_zero, List.set_cons_succ]
        refine wpAnyL_take 6 (oi := ⟨(some 17), (.convert 87 3 (.tmp 16)), 3, "page.go:106", #[⟨5, .data⟩], none⟩) (v := ?v_34) rfl (by kernel_rfl) (fun _ _ _ h => h) hSw6 (yieldsIf_of rfl ?hy_34) ?hrest_34
        case hy_34 => (intro w_ hS_; (first | (go_simp; done) | (go_simp; with_reducible rfl)))
        try simp only [Act.put, List.setIfInBounds_toArray, List.set_cons_zero, List.set_cons_succ]
        refine wpAnyL_take 7 (oi := ⟨(some 18), (.build 89 #[(0, (.tmp 13)), (1, (.tmp 17))]), 89, "page.go:106", #[⟨2, .data⟩, ⟨6, .data⟩], none⟩) (v := ?v_35) rfl (by kernel_rfl) (fun _ _ _ h => h) hSw6 (yieldsIf_of rfl ?hy_35) ?hrest_35
        case hy_35 => (intro w_ hS_; (first | (go_simp; done) | (go_simp; with_reducible rfl)))
        try simp only [Act.put, List.setIfInBounds_toArray, List.set_cons_zero, List.set_cons_succ]
        refine wpAnyL_late 9 (o := ⟨none, (.store 89 (.tmp 6) (.tmp 18)), 0, "page.go:106", #[⟨8, .data⟩, ⟨7, .data⟩, ⟨5, .chain⟩, ⟨0, .phase⟩, ⟨1, .phase⟩, ⟨2, .phase⟩, ⟨3, .phase⟩, ⟨4, .phase⟩, ⟨5, .phase⟩, ⟨6, .phase⟩, ⟨7, .phase⟩, ⟨8, .phase⟩], none⟩) rfl (by kernel_rfl) rfl (by kernel_rfl) (fun K hK => ?_)
        go_simp
        refine hK.out _ _ ?_; clear hK K
        try simp only [Act.put, List.setIfInBounds_toArray, List.set_cons_zero, List.set_cons_succ]
        refine wpAnyL_done (by kernel_rfl) ?_ _
        have hw2 : IntKind.i64.wrap (smallN ((b.drop 12).take 4) : Int) = (smallN ((b.drop 12).take 4) : Int) := by rw [IntWalk.i64_in _ (by omega)]
        rw [hw2]
        generalize hn1 : smallN ((b.drop 4).take 8) = N at *
        generalize hn2 : smallN ((b.drop 12).take 4) = R at *
        have F2 := ((Fr.refl C0 w1).alloc (.cells #[.int .u64 (N : Int), .int .i64 (R : Int)] 89)).drew
        have hblk : (w1.alloc (.cells #[.int .u64 (N : Int), .int .i64 (R : Int)] 89)).drew.heap[w1.heap.size]? = some (.cells #[.int .u64 (N : Int), .int .i64 (R : Int)] 89 (0, 0)) := heap_alloc_new w1 _
        have f2h : Fr C0 w1 (w1.alloc (.cells #[.int .u64 (N : Int), .int .i64 (R : Int)] 89)).drew := F2
        generalize (w1.alloc (.cells #[.int .u64 (N : Int), .int .i64 (R : Int)] 89)).drew = w2 at *
        have HHB := Lib.hid (fun (w_ : World) => headbytes_calls w_ N R (by omega) (by omega))
        have hgl : g < w2.heap.size := by have := (Array.getElem?_eq_some_iff.1 G1.out).1; have := F2.size; omega
        have k0 := blk_cell hblk 0 rfl
        have k1 := blk_cell hblk 1 rfl
        go_wp2
        by_cases heq : b.take 20 = headB N R
        · have hd : decide (b.take 20 = headB N R) = true := by simp [heq]
          refine wp_region_L (Fr C0 w2) [] (by kernel_rfl) ?_
          have hSw0 : (Fr C0 w2) _ := (Fr.refl C0 w2).drew
          refine wpAnyL_take 0 (oi := ⟨(some 19), (.move (.tmp 0)), 23, "page.go:107", #[], none⟩) (v := ?v_36) rfl (by kernel_rfl) (fun _ _ _ h => h) hSw0 (yieldsIf_of rfl ?hy_36) ?hrest_36
          case hy_36 => (intro w_ hS_; (first | (go_simp; done) | (go_simp; with_reducible rfl)))
          try simp only [Act.put, List.setIfInBounds_toArray, List.set_cons_zero, List.set_cons_succ]
          refine wpAnyL_take 1 (oi := ⟨(some 20), (.slice 23 (.tmp 19) none (some (.const (.int .i64 20))) none), 23, "page.go:107", #[⟨0, .data⟩], none⟩) (v := ?v_37) rfl (by kernel_rfl) (fun _ _ _ h => h) hSw0 (yieldsIf_of rfl ?hy_37) ?hrest_37
          case hy_37 => (intro w_ hS_; (first | (go_simp; done) | (go_simp; with_reducible rfl)))
          try simp only [Act.put, List.setIfInBounds_toArray, List.set_cons_zero, List.set_cons_succ]
          refine wpAnyL_take 2 (oi := ⟨(some 21), (.load 89 (.tmp 6)), 89, "page.go:107", #[], none⟩) (v := ?v_38) rfl (by kernel_rfl) (fun _ _ _ h => h) hSw0 (yieldsIf_of rfl ?hy_38) ?hrest_38
          case hy_38 => (intro w_ hS_; have j0 := hS_.cell0 k0; have j1 := hS_.cell0 k1; (first | (go_simp; done) | (go_simp; with_reducible rfl)))
          try simp only [Act.put, List.setIfInBounds_toArray, List.set_cons_zero, List.set_cons_succ]
          refine wpAnyL_one 3 (o := ⟨(some 22), (.call ⟨(.value (.func 71)), #[(.tmp 21)], #[89]⟩), 23, "page.go:107", #[⟨2, .data⟩], none⟩) rfl (by kernel_rfl) rfl (by kernel_rfl) (fun K hK => ?_)
          go_simp
          refine (HHB.out _).mono ?_
          rintro e w3 ⟨v3, rfl, f3, o3⟩
          simp only []
          refine hK.out _ _ ?kS39 (fun hSw1 => ?kR39)
          case kS39 => exact Fr.trans0 (by assumption) f3
          clear hK K
          try simp only [Act.put, List.setIfInBounds_toArray, List.set_cons_zero, List.set_cons_succ]
          refine wpAnyL_one 4 (o := ⟨(some 23), (.call ⟨(.value (.func 96)), #[(.tmp 20), (.tmp 22)], #[23, 23]⟩), 4, "page.go:107", #[⟨1, .data⟩, ⟨3, .data⟩, ⟨3, .chain⟩], none⟩) rfl (by kernel_rfl) rfl (by kernel_rfl) (fun K hK => ?_)
          go_simp
          refine (equal_calls ((S3.out.fr0 F2).fr0 (show Fr C0 w2 _ by assumption)) (G := fun _ => True) (b := headB N R) (bytesAt_row.2 (by rw [headB_length]; exact Row.ofOwn o3 (fun _ _ => trivial)))).mono ?_
          rintro e w4 ⟨rfl, rfl⟩
          rw [hd]
          simp only []
          refine hK.out _ _ ?kS40 (fun hSw2 => ?kR40)
          case kS40 => assumption
          clear hK K
          try simp only [Act.put, List.setIfInBounds_toArray, List.set_cons_zero, List.set_cons_succ]
          refine wpAnyL_take 5 (oi := ⟨(some 24), (.move (.tmp 23)), 4, "page.go:107", #[⟨4, .data⟩, ⟨4, .chain⟩], none⟩) (v := ?v_41) rfl (by kernel_rfl) (fun _ _ _ h => h) hSw2 (yieldsIf_of rfl ?hy_41) ?hrest_41
          case hy_41 => (intro w_ hS_; (first | (go_simp; done) | (go_simp; with_reducible rfl)))
          try simp only [Act.put, List.setIfInBounds_toArray, List.set_cons_zero, List.set_cons_succ]
          refine wpAnyL_take 6 (oi := ⟨(some 25), (.move (.tmp 0)), 23, "page.go:107", #[⟨5, .guard⟩], (some (5, true))⟩) (v := ?v_42) rfl (by kernel_rfl) (fun _ _ _ h => h) hSw2 (yieldsIf_of rfl ?hy_42) ?hrest_42
          case hy_42 => (intro w_ hS_; (first | (go_simp; done) | (go_simp; with_reducible rfl)))
          try simp only [Act.put, List.setIfInBounds_toArray, List.set_cons_zero, List.set_cons_succ]
          refine wpAnyL_take 7 (oi := ⟨(some 26), (.slice 23 (.tmp 25) (some (.const (.int .i64 20))) none none), 23, "page.go:107", #[⟨6, .data⟩, ⟨5, .guard⟩], (some (5, true))⟩) (v := ?v_43) rfl (by kernel_rfl) (fun _ _ _ h => h) hSw2 (yieldsIf_of rfl ?hy_43) ?hrest_43
          case hy_43 => (intro w_ hS_; (first | (go_simp; done) | (go_simp; with_reducible rfl)))
          try simp only [Act.put, List.setIfInBounds_toArray, List.set_cons_zero, List.set_cons_succ]
          refine wpAnyL_one 8 (o := ⟨(some 27), (.call ⟨(.value (.func 94)), #[(.tmp 26)], #[23]⟩), 4, "page.go:107", #[⟨7, .data⟩, ⟨5, .chain⟩, ⟨5, .guard⟩], (some (5, true))⟩) rfl (by kernel_rfl) rfl (by kernel_rfl) (fun K hK => ?_)
          go_simp
          refine (zeroB_calls ((S4.out.fr0 F2).fr0 (show Fr C0 w2 _ by assumption)) (by omega)).mono ?_
          rintro e w5 ⟨rfl, f5⟩
          simp only []
          have F5 : Hid (Fr C0 w2 w5) := Lib.hid (Fr.trans0 (by assumption) f5)
          refine hK.out _ _ ?kS44 (fun hSw3 => ?kR44)
          case kS44 => exact F5.out
          clear hK K
          try simp only [Act.put, List.setIfInBounds_toArray, List.set_cons_zero, List.set_cons_succ]
          refine wpAnyL_take 9 (oi := ⟨(some 28), (.pick (.tmp 24) (.tmp 27) (.const (.bool false))), 4, "page.go:107", #[⟨5, .data⟩, ⟨8, .data⟩], none⟩) (v := ?v_45) rfl (by kernel_rfl) (fun _ _ _ h => h) hSw3 (yieldsIf_of rfl ?hy_45) ?hrest_45
          case hy_45 => (intro w_ hS_; (first | (go_simp; done) | (go_simp; with_reducible rfl)))
          try simp only [Act.put, List.setIfInBounds_toArray, List.set_cons_zero, List.set_cons_succ]
          refine wpAnyL_take 10 (oi := ⟨(some 7), (.assign (.tmp 28)), 4, "page.go:107", #[⟨9, .data⟩, ⟨8, .chain⟩, ⟨0, .phase⟩, ⟨1, .phase⟩, ⟨2, .phase⟩, ⟨3, .phase⟩, ⟨4, .phase⟩, ⟨5, .phase⟩, ⟨6, .phase⟩, ⟨7, .phase⟩, ⟨8, .phase⟩, ⟨9, .phase⟩], none⟩) (v := ?v_46) rfl (by kernel_rfl) (fun _ _ _ h => h) hSw3 (yieldsIf_of rfl ?hy_46) ?hrest_46
          case hy_46 => (intro w_ hS_; (first | (go_simp; done) | (go_simp; with_reducible rfl)))
          try simp only [Act.put, List.setIfInBounds_toArray, List.set_cons_zero, List.set_cons_succ]
          refine wpAnyL_done (by kernel_rfl) ?_ _
          have hres5 := (f2h.trans0 F5.out).blk hres (fun h => h)
          have k0 := F5.out.cell0 k0
          have k1 := F5.out.cell0 k1
          have r0 := blk_cell hres5 0 rfl
          have r1 := blk_cell hres5 1 rfl
          have z0 := blk_free 0 hres5
          have z1 := blk_free 1 hres5
          have FW := Lib.hid ((((Fr.refl C0 w).alloc (.cells #[.int .u64 0, .int .i64 0] 89)).trans0 f1).trans0 (f2h.trans0 F5.out))
          go_wp2
          all_goals
            refine ret_cell_tmp rfl rfl (blk_set (i := 1) (blk_set (i := 0) hres5 _) _) Try.underlying89 rfl (by kernel_rfl) rfl ?_
            refine ⟨?_, (FW.out.setCell (.inl (Nat.le_refl _)) _).setCell (.inl (Nat.le_refl _)) _⟩
            simp [readHeadF, hz, headFine, headOf, hn1, hn2, heq, *]
          all_goals first
            | omega
            | (simp only [intne1, inteq0]; done)
            | (simp only [intne1, inteq0]; simp; omega)
        · have hd : decide (b.take 20 = headB N R) = false := by simp [heq]
          refine wp_region_L (Fr C0 w2) [] (by kernel_rfl) ?_
          have hSw0 : (Fr C0 w2) _ := (Fr.refl C0 w2).drew
          refine wpAnyL_take 0 (oi := ⟨(some 19), (.move (.tmp 0)), 23, "page.go:107", #[], none⟩) (v := ?v_47) rfl (by kernel_rfl) (fun _ _ _ h => h) hSw0 (yieldsIf_of rfl ?hy_47) ?hrest_47
          case hy_47 => (intro w_ hS_; (first | (go_simp; done) | (go_simp; with_reducible rfl)))
          try simp only [Act.put, List.setIfInBounds_toArray, List.set_cons_zero, List.set_cons_succ]
          refine wpAnyL_take 1 (oi := ⟨(some 20), (.slice 23 (.tmp 19) none (some (.const (.int .i64 20))) none), 23, "page.go:107", #[⟨0, .data⟩], none⟩) (v := ?v_48) rfl (by kernel_rfl) (fun _ _ _ h => h) hSw0 (yieldsIf_of rfl ?hy_48) ?hrest_48
          case hy_48 => (intro w_ hS_; (first | (go_simp; done) | (go_simp; with_reducible rfl)))
          try simp only [Act.put, List.setIfInBounds_toArray, List.set_cons_zero, List.set_cons_succ]
          refine wpAnyL_take 2 (oi := ⟨(some 21), (.load 89 (.tmp 6)), 89, "page.go:107", #[], none⟩) (v := ?v_49) rfl (by kernel_rfl) (fun _ _ _ h => h) hSw0 (yieldsIf_of rfl ?hy_49) ?hrest_49
          case hy_49 => (intro w_ hS_; have j0 := hS_.cell0 k0; have j1 := hS_.cell0 k1; (first | (go_simp; done) | (go_simp; with_reducible rfl)))
          try simp only [Act.put, List.setIfInBounds_toArray, List.set_cons_zero, List.set_cons_succ]
          refine wpAnyL_one 3 (o := ⟨(some 22), (.call ⟨(.value (.func 71)), #[(.tmp 21)], #[89]⟩), 23, "page.go:107", #[⟨2, .data⟩], none⟩) rfl (by kernel_rfl) rfl (by kernel_rfl) (fun K hK => ?_)
          go_simp
          refine (HHB.out _).mono ?_
          rintro e w3 ⟨v3, rfl, f3, o3⟩
          simp only []
          have F5 : Hid (Fr C0 w2 w3) := Lib.hid (Fr.trans0 (by assumption) f3)
          refine hK.out _ _ ?kS50 (fun hSw1 => ?kR50)
          case kS50 => exact F5.out
          clear hK K
          try simp only [Act.put, List.setIfInBounds_toArray, List.set_cons_zero, List.set_cons_succ]
          refine wpAnyL_one 4 (o := ⟨(some 23), (.call ⟨(.value (.func 96)), #[(.tmp 20), (.tmp 22)], #[23, 23]⟩), 4, "page.go:107", #[⟨1, .data⟩, ⟨3, .data⟩, ⟨3, .chain⟩], none⟩) rfl (by kernel_rfl) rfl (by kernel_rfl) (fun K hK => ?_)
          go_simp
          refine (equal_calls ((S3.out.fr0 F2).fr0 F5.out) (G := fun _ => True) (b := headB N R) (bytesAt_row.2 (by rw [headB_length]; exact Row.ofOwn o3 (fun _ _ => trivial)))).mono ?_
          rintro e w4 ⟨rfl, rfl⟩
          rw [hd]
          simp only []
          refine hK.out _ _ ?kS51 (fun hSw2 => ?kR51)
          case kS51 => assumption
          clear hK K
          try simp only [Act.put, List.setIfInBounds_toArray, List.set_cons_zero, List.set_cons_succ]
          refine wpAnyL_take 5 (oi := ⟨(some 24), (.move (.tmp 23)), 4, "page.go:107", #[⟨4, .data⟩, ⟨4, .chain⟩], none⟩) (v := ?v_52) rfl (by kernel_rfl) (fun _ _ _ h => h) hSw2 (yieldsIf_of rfl ?hy_52) ?hrest_52
          case hy_52 => (intro w_ hS_; (first | (go_simp; done) | (go_simp; with_reducible rfl)))
          try simp only [Act.put, List.setIfInBounds_toArray, List.set_cons_zero, List.set_cons_succ]
          refine wpAnyL_take 6 (oi := ⟨(some 25), (.move (.tmp 0)), 23, "page.go:107", #[⟨5, .guard⟩], (some (5, true))⟩)  rfl (by kernel_rfl) (fun _ _ _ h => h) hSw2 (yieldsIf_skip rfl) ?hrest_53
          try simp only [Act.put, List.setIfInBounds_toArray, List.set_cons_zero, List.set_cons_succ]
          refine wpAnyL_take 7 (oi := ⟨(some 26), (.slice 23 (.tmp 25) (some (.const (.int .i64 20))) none none), 23, "page.go:107", #[⟨6, .data⟩, ⟨5, .guard⟩], (some (5, true))⟩)  rfl (by kernel_rfl) (fun _ _ _ h => h) hSw2 (yieldsIf_skip rfl) ?hrest_54
          try simp only [Act.put, List.setIfInBounds_toArray, List.set_cons_zero, List.set_cons_succ]
          refine wpAnyL_take 8 (oi := ⟨(some 27), (.call ⟨(.value (.func 94)), #[(.tmp 26)], #[23]⟩), 4, "page.go:107", #[⟨7, .data⟩, ⟨5, .chain⟩, ⟨5, .guard⟩], (some (5, true))⟩)  rfl (by kernel_rfl) (fun _ _ _ h => h) hSw2 (yieldsIf_skip rfl) ?hrest_55
          try simp only [Act.put, List.setIfInBounds_toArray, List.set_cons_zero, List.set_cons_succ]
          refine wpAnyL_take 9 (oi := ⟨(some 28), (.pick (.tmp 24) (.tmp 27) (.const (.bool false))), 4, "page.go:107", #[⟨5, .data⟩, ⟨8, .data⟩], none⟩) (v := ?v_56) rfl (by kernel_rfl) (fun _ _ _ h => h) hSw2 (yieldsIf_of rfl ?hy_56) ?hrest_56
          case hy_56 => (intro w_ hS_; (first | (go_simp; done) | (go_simp; with_reducible rfl)))
          try simp only [Act.put, List.setIfInBounds_toArray, List.set_cons_zero, List.set_cons_succ]
          refine wpAnyL_take 10 (oi := ⟨(some 7), (.assign (.tmp 28)), 4, "page.go:107", #[⟨9, .data⟩, ⟨8, .chain⟩, ⟨0, .phase⟩, ⟨1, .phase⟩, ⟨2, .phase⟩, ⟨3, .phase⟩, ⟨4, .phase⟩, ⟨5, .phase⟩, ⟨6, .phase⟩, ⟨7, .phase⟩, ⟨8, .phase⟩, ⟨9, .phase⟩], none⟩) (v := ?v_57) rfl (by kernel_rfl) (fun _ _ _ h => h) hSw2 (yieldsIf_of rfl ?hy_57) ?hrest_57
          case hy_57 => (intro w_ hS_; (first | (go_simp; done) | (go_simp; with_reducible rfl)))
          try simp only [Act.put, List.setIfInBounds_toArray, List.set_cons_zero, List.set_cons_succ]
          refine wpAnyL_done (by kernel_rfl) ?_ _
          have hres5 := (f2h.trans0 F5.out).blk hres (fun h => h)
          have k0 := F5.out.cell0 k0
          have k1 := F5.out.cell0 k1
          have r0 := blk_cell hres5 0 rfl
          have r1 := blk_cell hres5 1 rfl
          have z0 := blk_free 0 hres5
          have z1 := blk_free 1 hres5
          have FW := Lib.hid ((((Fr.refl C0 w).alloc (.cells #[.int .u64 0, .int .i64 0] 89)).trans0 f1).trans0 (f2h.trans0 F5.out))
          go_wp2
          all_goals
            refine ret_cell_tmp rfl rfl (blk_set (i := 1) (blk_set (i := 0) hres5 _) _) Try.underlying89 rfl (by kernel_rfl) rfl ?_
            refine ⟨?_, (FW.out.setCell (.inl (Nat.le_refl _)) _).setCell (.inl (Nat.le_refl _)) _⟩
            simp [readHeadF, hz, headFine, headOf, hn1, hn2, heq]
    · skip
      go_simp
      refine hK.out _ _ ?kS58 (fun hSw8 => ?kR58)
      case kS58 => exact Fr.alloc (by assumption) _
      clear hK K
      try simp only [Act.put, List.setIfInBounds_toArray, List.set_cons_zero, List.set_cons_succ]
      refine wpAnyL_one 2 (o := ⟨(some 13), (.call ⟨(.value (.func 95)), #[(.tmp 12)], #[23]⟩), 87, "page.go:106", #[⟨1, .data⟩], none⟩) rfl (by kernel_rfl) rfl (by kernel_rfl) (fun K hK => ?_)
      go_simp
      refine (S1.out _ (by assumption)).mono ?_
      rintro e w2 ⟨rfl, rfl⟩
      simp only []
      refine hK.out _ _ ?kS59 (fun hSw9 => ?kR59)
      case kS59 => assumption
      clear hK K
      try simp only [Act.put, List.setIfInBounds_toArray, List.set_cons_zero, List.set_cons_succ]
      refine wpAnyL_one 5 (o := ⟨(some 16), (.call ⟨(.value (.func 95)), #[(.tmp 15)], #[23]⟩), 87, "page.go:106", #[⟨4, .data⟩, ⟨2, .chain⟩], none⟩) rfl (by kernel_rfl) rfl (by kernel_rfl) (fun K hK => ?_)
      go_simp
      refine (S2.out _ (by assumption)).mono ?_
      rintro e w2 ⟨rfl, rfl⟩
      simp only []
      refine hK.out _ _ ?kS60 (fun hSw10 => ?kR60)
      case kS60 => assumption
      clear hK K
      try simp only [Act.put, List.setIfInBounds_toArray, List.set_cons_zero, List.set_cons_succ]
      refine wpAnyL_take 6 (oi := ⟨(some 17), (.convert 87 3 (.tmp 16)), 3, "page.go:106", #[⟨5, .data⟩], none⟩) (v := ?v_61) rfl (by kernel_rfl) (fun _ _ _ h => h) hSw10 (yieldsIf_of rfl ?hy_61) ?hrest_61
      case hy_61 => (intro w_ hS_; (first | (go_simp; done) | (go_simp; with_reducible rfl)))
      try simp only [Act.put, List.setIfInBounds_toArray, List.set_cons_zero, List.set_cons_succ]
      refine wpAnyL_take 7 (oi := ⟨(some 18), (.build 89 #[(0, (.tmp 13)), (1, (.tmp 17))]), 89, "page.go:106", #[⟨2, .data⟩, ⟨6, .data⟩], none⟩) (v := ?v_62) rfl (by kernel_rfl) (fun _ _ _ h => h) hSw10 (yieldsIf_of rfl ?hy_62) ?hrest_62
      case hy_62 => (intro w_ hS_; (first | (go_simp; done) | (go_simp; with_reducible rfl)))
      try simp only [Act.put, List.setIfInBounds_toArray, List.set_cons_zero, List.set_cons_succ]
      refine wpAnyL_late 9 (o := ⟨none, (.store 89 (.tmp 6) (.tmp 18)), 0, "page.go:106", #[⟨8, .data⟩, ⟨7, .data⟩, ⟨5, .chain⟩, ⟨0, .phase⟩, ⟨1, .phase⟩, ⟨2, .phase⟩, ⟨3, .phase⟩, ⟨4, .phase⟩, ⟨5, .phase⟩, ⟨6, .phase⟩, ⟨7, .phase⟩, ⟨8, .phase⟩], none⟩) rfl (by kernel_rfl) rfl (by kernel_rfl) (fun K hK => ?_)
      go_simp
      refine hK.out _ _ ?_; clear hK K
      try simp only [Act.put, List.setIfInBounds_toArray, List.set_cons_zero, List.set_cons_succ]
      refine wpAnyL_done (by kernel_rfl) ?_ _
      have hw2 : IntKind.i64.wrap (smallN ((b.drop 12).take 4) : Int) = (smallN ((b.drop 12).take 4) : Int) := by rw [IntWalk.i64_in _ (by omega)]
      rw [hw2]
      generalize hn1 : smallN ((b.drop 4).take 8) = N at *
      generalize hn2 : smallN ((b.drop 12).take 4) = R at *
      have F2 := ((Fr.refl C0 w1).alloc (.cells #[.int .u64 (N : Int), .int .i64 (R : Int)] 89)).drew
      have hblk : (w1.alloc (.cells #[.int .u64 (N : Int), .int .i64 (R : Int)] 89)).drew.heap[w1.heap.size]? = some (.cells #[.int .u64 (N : Int), .int .i64 (R : Int)] 89 (0, 0)) := heap_alloc_new w1 _
      have f2h : Fr C0 w1 (w1.alloc (.cells #[.int .u64 (N : Int), .int .i64 (R : Int)] 89)).drew := F2
      generalize (w1.alloc (.cells #[.int .u64 (N : Int), .int .i64 (R : Int)] 89)).drew = w2 at *
      have HHB := Lib.hid (fun (w_ : World) => headbytes_calls w_ N R (by omega) (by omega))
      have hgl : g < w2.heap.size := by have := (Array.getElem?_eq_some_iff.1 G1.out).1; have := F2.size; omega
      have k0 := blk_cell hblk 0 rfl
      have k1 := blk_cell hblk 1 rfl
      go_wp2
      by_cases heq : b.take 20 = headB N R
      · have hd : decide (b.take 20 = headB N R) = true := by simp [heq]
        refine wp_region_L (Fr C0 w2) [] (by kernel_rfl) ?_
        have hSw0 : (Fr C0 w2) _ := (Fr.refl C0 w2).drew
        refine wpAnyL_take 0 (oi := ⟨(some 19), (.move (.tmp 0)), 23, "page.go:107", #[], none⟩) (v := ?v_63) rfl (by kernel_rfl) (fun _ _ _ h => h) hSw0 (yieldsIf_of rfl ?hy_63) ?hrest_63
        case hy_63 => (intro w_ hS_; (first | (go_simp; done) | (go_simp; with_reducible rfl)))
        try simp only [Act.put, List.setIfInBounds_toArray, List.set_cons_zero, List.set_cons_succ]
        refine wpAnyL_take 1 (oi := ⟨(some 20), (.slice 23 (.tmp 19) none (some (.const (.int .i64 20))) none), 23, "page.go:107", #[⟨0, .data⟩], none⟩) (v := ?v_64) rfl (by kernel_rfl) (fun _ _ _ h => h) hSw0 (yieldsIf_of rfl ?hy_64) ?hrest_64
        case hy_64 => (intro w_ hS_; (first | (go_simp; done) | (go_simp; with_reducible rfl)))
        try simp only [Act.put, List.setIfInBounds_toArray, List.set_cons_zero, List.set_cons_succ]
        refine wpAnyL_take 2 (oi := ⟨(some 21), (.load 89 (.tmp 6)), 89, "page.go:107", #[], none⟩) (v := ?v_65) rfl (by kernel_rfl) (fun _ _ _ h => h) hSw0 (yieldsIf_of rfl ?hy_65) ?hrest_65
        case hy_65 => (intro w_ hS_; have j0 := hS_.cell0 k0; have j1 := hS_.cell0 k1; (first | (go_simp; done) | (go_simp; with_reducible rfl)))
        try simp only [Act.put, List.setIfInBounds_toArray, List.set_cons_zero, List.set_cons_succ]
        refine wpAnyL_one 3 (o := ⟨(some 22), (.call ⟨(.value (.func 71)), #[(.tmp 21)], #[89]⟩), 23, "page.go:107", #[⟨2, .data⟩], none⟩) rfl (by kernel_rfl) rfl (by kernel_rfl) (fun K hK => ?_)
        go_simp
        refine (HHB.out _).mono ?_
        rintro e w3 ⟨v3, rfl, f3, o3⟩
        simp only []
        refine hK.out _ _ ?kS66 (fun hSw1 => ?kR66)
        case kS66 => exact Fr.trans0 (by assumption) f3
        clear hK K
        try simp only [Act.put, List.setIfInBounds_toArray, List.set_cons_zero, List.set_cons_succ]
        refine wpAnyL_one 4 (o := ⟨(some 23), (.call ⟨(.value (.func 96)), #[(.tmp 20), (.tmp 22)], #[23, 23]⟩), 4, "page.go:107", #[⟨1, .data⟩, ⟨3, .data⟩, ⟨3, .chain⟩], none⟩) rfl (by kernel_rfl) rfl (by kernel_rfl) (fun K hK => ?_)
        go_simp
        refine (equal_calls ((S3.out.fr0 F2).fr0 (show Fr C0 w2 _ by assumption)) (G := fun _ => True) (b := headB N R) (bytesAt_row.2 (by rw [headB_length]; exact Row.ofOwn o3 (fun _ _ => trivial)))).mono ?_
        rintro e w4 ⟨rfl, rfl⟩
        rw [hd]
        simp only []
        refine hK.out _ _ ?kS67 (fun hSw2 => ?kR67)
        case kS67 => assumption
        clear hK K
        try simp only [Act.put, List.setIfInBounds_toArray, List.set_cons_zero, List.set_cons_succ]
        refine wpAnyL_take 5 (oi := ⟨(some 24), (.move (.tmp 23)), 4, "page.go:107", #[⟨4, .data⟩, ⟨4, .chain⟩], none⟩) (v := ?v_68) rfl (by kernel_rfl) (fun _ _ _ h => h) hSw2 (yieldsIf_of rfl ?hy_68) ?hrest_68
        case hy_68 => (intro w_ hS_; (first | (go_simp; done) | (go_simp; with_reducible rfl)))
        try simp only [Act.put, List.setIfInBounds_toArray, List.set_cons_zero, List.set_cons_succ]
        refine wpAnyL_take 6 (oi := ⟨(some 25), (.move (.tmp 0)), 23, "page.go:107", #[⟨5, .guard⟩], (some (5, true))⟩) (v := ?v_69) rfl (by kernel_rfl) (fun _ _ _ h => h) hSw2 (yieldsIf_of rfl ?hy_69) ?hrest_69
        case hy_69 => (intro w_ hS_; (first | (go_simp; done) | (go_simp; with_reducible rfl)))
        try simp only [Act.put, List.setIfInBounds_toArray, List.set_cons_zero, List.set_cons_succ]
        refine wpAnyL_take 7 (oi := ⟨(some 26), (.slice 23 (.tmp 25) (some (.const (.int .i64 20))) none none), 23, "page.go:107", #[⟨6, .data⟩, ⟨5, .guard⟩], (some (5, true))⟩) (v := ?v_70) rfl (by kernel_rfl) (fun _ _ _ h => h) hSw2 (yieldsIf_of rfl ?hy_70) ?hrest_70
        case hy_70 => (intro w_ hS_; (first | (go_simp; done) | (go_simp; with_reducible rfl)))
        try simp only [Act.put, List.setIfInBounds_toArray, List.set_cons_zero, List.set_cons_succ]
        refine wpAnyL_one 8 (o := ⟨(some 27), (.call ⟨(.value (.func 94)), #[(.tmp 26)], #[23]⟩), 4, "page.go:107", #[⟨7, .data⟩, ⟨5, .chain⟩, ⟨5, .guard⟩], (some (5, true))⟩) rfl (by kernel_rfl) rfl (by kernel_rfl) (fun K hK => ?_)
        go_simp
        refine (zeroB_calls ((S4.out.fr0 F2).fr0 (show Fr C0 w2 _ by assumption)) (by omega)).mono ?_
        rintro e w5 ⟨rfl, f5⟩
        simp only []
        have F5 : Hid (Fr C0 w2 w5) := Lib.hid (Fr.trans0 (by assumption) f5)
        refine hK.out _ _ ?kS71 (fun hSw3 => ?kR71)
        case kS71 => exact F5.out
        clear hK K
        try simp only [Act.put, List.setIfInBounds_toArray, List.set_cons_zero, List.set_cons_succ]
        refine wpAnyL_take 9 (oi := ⟨(some 28), (.pick (.tmp 24) (.tmp 27) (.const (.bool false))), 4, "page.go:107", #[⟨5, .data⟩, ⟨8, .data⟩], none⟩) (v := ?v_72) rfl (by kernel_rfl) (fun _ _ _ h => h) hSw3 (yieldsIf_of rfl ?hy_72) ?hrest_72
        case hy_72 => (intro w_ hS_; (first | (go_simp; done) | (go_simp; with_reducible rfl)))
        try simp only [Act.put, List.setIfInBounds_toArray, List.set_cons_zero, List.set_cons_succ]
        refine wpAnyL_take 10 (oi := ⟨(some 7), (.assign (.tmp 28)), 4, "page.go:107", #[⟨9, .data⟩, ⟨8, .chain⟩, ⟨0, .phase⟩, ⟨1, .phase⟩, ⟨2, .phase⟩, ⟨3, .phase⟩, ⟨4, .phase⟩, ⟨5, .phase⟩, ⟨6, .phase⟩, ⟨7, .phase⟩, ⟨8, .phase⟩, ⟨9, .phase⟩], none⟩) (v := ?v_73) rfl (by kernel_rfl) (fun _ _ _ h => h) hSw3 (yieldsIf_of rfl ?hy_73) ?hrest_73
        case hy_73 => (intro w_ hS_; (first | (go_simp; done) | (go_simp; with_reducible rfl)))
        try simp only [Act.put, List.setIfInBounds_toArray, List.set_cons_zero, List.set_cons_succ]
        refine wpAnyL_done (by kernel_rfl) ?_ _
        have hres5 := (f2h.trans0 F5.out).blk hres (fun h => h)
        have k0 := F5.out.cell0 k0
        have k1 := F5.out.cell0 k1
        have r0 := blk_cell hres5 0 rfl
        have r1 := blk_cell hres5 1 rfl
        have z0 := blk_free 0 hres5
        have z1 := blk_free 1 hres5
        have FW := Lib.hid ((((Fr.refl C0 w).alloc (.cells #[.int .u64 0, .int .i64 0] 89)).trans0 f1).trans0 (f2h.trans0 F5.out))
        go_wp2
        all_goals
          refine ret_cell_tmp rfl rfl (blk_set (i := 1) (blk_set (i := 0) hres5 _) _) Try.underlying89 rfl (by kernel_rfl) rfl ?_
          refine ⟨?_, (FW.out.setCell (.inl (Nat.le_refl _)) _).setCell (.inl (Nat.le_refl _)) _⟩
          simp [readHeadF, hz, headFine, headOf, hn1, hn2, heq, *]
        all_goals first
          | omega
          | (simp only [intne1, inteq0]; done)
          | (simp only [intne1, inteq0]; simp; omega)
      · have hd : decide (b.take 20 = headB N R) = false := by simp [heq]
        refine wp_region_L (Fr C0 w2) [] (by kernel_rfl) ?_
        have hSw0 : (Fr C0 w2) _ := (Fr.refl C0 w2).drew
        refine wpAnyL_take 0 (oi := ⟨(some 19), (.move (.tmp 0)), 23, "page.go:107", #[], none⟩) (v := ?v_74) rfl (by kernel_rfl) (fun _ _ _ h => h) hSw0 (yieldsIf_of rfl ?hy_74) ?hrest_74
        case hy_74 => (intro w_ hS_; (first | (go_simp; done) | (go_simp; with_reducible rfl)))
        try simp only [Act.put, List.setIfInBounds_toArray, List.set_cons_zero, List.set_cons_succ]
        refine wpAnyL_take 1 (oi := ⟨(some 20), (.slice 23 (.tmp 19) none (some (.const (.int .i64 20))) none), 23, "page.go:107", #[⟨0, .data⟩], none⟩) (v := ?v_75) rfl (by kernel_rfl) (fun _ _ _ h => h) hSw0 (yieldsIf_of rfl ?hy_75) ?hrest_75
        case hy_75 => (intro w_ hS_; (first | (go_simp; done) | (go_simp; with_reducible rfl)))
        try simp only [Act.put, List.setIfInBounds_toArray, List.set_cons_zero, List.set_cons_succ]
        refine wpAnyL_take 2 (oi := ⟨(some 21), (.load 89 (.tmp 6)), 89, "page.go:107", #[], none⟩) (v := ?v_76) rfl (by kernel_rfl) (fun _ _ _ h => h) hSw0 (yieldsIf_of rfl ?hy_76) ?hrest_76
        case hy_76 => (intro w_ hS_; have j0 := hS_.cell0 k0; have j1 := hS_.cell0 k1; (first | (go_simp; done) | (go_simp; with_reducible rfl)))
        try simp only [Act.put, List.setIfInBounds_toArray, List.set_cons_zero, List.set_cons_succ]
        refine wpAnyL_one 3 (o := ⟨(some 22), (.call ⟨(.value (.func 71)), #[(.tmp 21)], #[89]⟩), 23, "page.go:107", #[⟨2, .data⟩], none⟩) rfl (by kernel_rfl) rfl (by kernel_rfl) (fun K hK => ?_)
        go_simp
        refine (HHB.out _).mono ?_
        rintro e w3 ⟨v3, rfl, f3, o3⟩
        simp only []
        have F5 : Hid (Fr C0 w2 w3) := Lib.hid (Fr.trans0 (by assumption) f3)
        refine hK.out _ _ ?kS77 (fun hSw1 => ?kR77)
        case kS77 => exact F5.out
        clear hK K
        try simp only [Act.put, List.setIfInBounds_toArray, List.set_cons_zero, List.set_cons_succ]
        refine wpAnyL_one 4 (o := ⟨(some 23), (.call ⟨(.value (.func 96)), #[(.tmp 20), (.tmp 22)], #[23, 23]⟩), 4, "page.go:107", #[⟨1, .data⟩, ⟨3, .data⟩, ⟨3, .chain⟩], none⟩) rfl (by kernel_rfl) rfl (by kernel_rfl) (fun K hK => ?_)
        go_simp
        refine (equal_calls ((S3.out.fr0 F2).fr0 F5.out) (G := fun _ => True) (b := headB N R) (bytesAt_row.2 (by rw [headB_length]; exact Row.ofOwn o3 (fun _ _ => trivial)))).mono ?_
        rintro e w4 ⟨rfl, rfl⟩
        rw [hd]
        simp only []
        refine hK.out _ _ ?kS78 (fun hSw2 => ?kR78)
        case kS78 => assumption
        clear hK K
        try simp only [Act.put, List.setIfInBounds_toArray, List.set_cons_zero, List.set_cons_succ]
        refine wpAnyL_take 5 (oi := ⟨(some 24), (.move (.tmp 23)), 4, "page.go:107", #[⟨4, .data⟩, ⟨4, .chain⟩], none⟩) (v := ?v_79) rfl (by kernel_rfl) (fun _ _ _ h => h) hSw2 (yieldsIf_of rfl ?hy_79) ?hrest_79
        case hy_79 => (intro w_ hS_; (first | (go_simp; done) | (go_simp; with_reducible rfl)))
        try simp only [Act.put, List.setIfInBounds_toArray, List.set_cons_zero, List.set_cons_succ]
        refine wpAnyL_take 6 (oi := ⟨(some 25), (.move (.tmp 0)), 23, "page.go:107", #[⟨5, .guard⟩], (some (5, true))⟩)  rfl (by kernel_rfl) (fun _ _ _ h => h) hSw2 (yieldsIf_skip rfl) ?hrest_80
        try simp only [Act.put, List.setIfInBounds_toArray, List.set_cons_zero, List.set_cons_succ]
        refine wpAnyL_take 7 (oi := ⟨(some 26), (.slice 23 (.tmp 25) (some (.const (.int .i64 20))) none none), 23, "page.go:107", #[⟨6, .data⟩, ⟨5, .guard⟩], (some (5, true))⟩)  rfl (by kernel_rfl) (fun _ _ _ h => h) hSw2 (yieldsIf_skip rfl) ?hrest_81
        try simp only [Act.put, List.setIfInBounds_toArray, List.set_cons_zero, List.set_cons_succ]
        refine wpAnyL_take 8 (oi := ⟨(some 27), (.call ⟨(.value (.func 94)), #[(.tmp 26)], #[23]⟩), 4, "page.go:107", #[⟨7, .data⟩, ⟨5, .chain⟩, ⟨5, .guard⟩], (some (5, true))⟩)  rfl (by kernel_rfl) (fun _ _ _ h => h) hSw2 (yieldsIf_skip rfl) ?hrest_82
        try simp only [Act.put, List.setIfInBounds_toArray, List.set_cons_zero, List.set_cons_succ]
        refine wpAnyL_take 9 (oi := ⟨(some 28), (.pick (.tmp 24) (.tmp 27) (.const (.bool false))), 4, "page.go:107", #[⟨5, .data⟩, ⟨8, .data⟩], none⟩) (v := ?v_83) rfl (by kernel_rfl) (fun _ _ _ h => h) hSw2 (yieldsIf_of rfl ?hy_83) ?hrest_83
        case hy_83 => (intro w_ hS_; (first | (go_simp; done) | (go_simp; with_reducible rfl)))
        try simp only [Act.put, List.setIfInBounds_toArray, List.set_cons_zero, List.set_cons_succ]
        refine wpAnyL_take 10 (oi := ⟨(some 7), (.assign (.tmp 28)), 4, "page.go:107", #[⟨9, .data⟩, ⟨8, .chain⟩, ⟨0, .phase⟩, ⟨1, .phase⟩, ⟨2, .phase⟩, ⟨3, .phase⟩, ⟨4, .phase⟩, ⟨5, .phase⟩, ⟨6, .phase⟩, ⟨7, .phase⟩, ⟨8, .phase⟩, ⟨9, .phase⟩], none⟩) (v := ?v_84) rfl (by kernel_rfl) (fun _ _ _ h => h) hSw2 (yieldsIf_of rfl ?hy_84) ?hrest_84
        case hy_84 => (intro w_ hS_; (first | (go_simp; done) | (go_simp; with_reducible rfl)))
        try simp only [Act.put, List.setIfInBounds_toArray, List.set_cons_zero, List.set_cons_succ]
        refine wpAnyL_done (by kernel_rfl) ?_ _
        have hres5 := (f2h.trans0 F5.out).blk hres (fun h => h)
        have k0 := F5.out.cell0 k0
        have k1 := F5.out.cell0 k1
        have r0 := blk_cell hres5 0 rfl
        have r1 := blk_cell hres5 1 rfl
        have z0 := blk_free 0 hres5
        have z1 := blk_free 1 hres5
        have FW := Lib.hid ((((Fr.refl C0 w).alloc (.cells #[.int .u64 0, .int .i64 0] 89)).trans0 f1).trans0 (f2h.trans0 F5.out))
        go_wp2
        all_goals
          refine ret_cell_tmp rfl rfl (blk_set (i := 1) (blk_set (i := 0) hres5 _) _) Try.underlying89 rfl (by kernel_rfl) rfl ?_
          refine ⟨?_, (FW.out.setCell (.inl (Nat.le_refl _)) _).setCell (.inl (Nat.le_refl _)) _⟩
          simp [readHeadF, hz, headFine, headOf, hn1, hn2, heq]
end Go.Proofs.Ytcmicdcikechkaa
end
