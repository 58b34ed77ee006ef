import Derived.Test.YtcmicdcikechkaaPieces10
set_option linter.all false
section
namespace Go.Proofs.Ytcmicdcikechkaa
open Go.RowKit Go.H
set_option maxHeartbeats 1000000
set_option maxRecDepth 100000
def GetRes (w w' : World) (e : Ending) : Option Bs → Prop
  | some l => ∃ v, e = .returned (.tuple #[v, .int .i64 0]) ∧ BytesAt (fun b => w.heap.size ≤ b) w' v l
  | none => e = .returned (.tuple #[.slice none 0 0, .int .i64 22])
theorem get_calls {c : Nat → Nat} {r : Nat} {w : World} {st : Nat} {S : SSt} {D : DSt} {k : Nat} {b : Bs} (h : StoreOk c r w st S D) (hal : Alive S D) (h1 : 2 ≤ k) (h2 : k < 2 + S.pages) (hbd : D.read k = b) (hb : b.length = 8192) :
    Calls Try.prog 85 #[.pointer (some ⟨st, 0, none⟩), .int .i64 (k : Int)] w fun e w' => Fr C0 w w' ∧ GetRes w w' e (pageOf b) := by
  obtain ⟨sm, d, m, ov, h⟩ := h
  have H2 := Lib.hid (dead_calls h)
  rw [hal.dead] at H2
  have H3 := Lib.hid (is_calls (h.fr0 (Fr.refl C0 w).drew) hal.small k)
  have H4 := Lib.hid (read_calls (h.fr0 (Fr.refl C0 w).drew).disk hal.down k (by have := hal.size; omega))
  have c2 := blk_cell h.blk 2 rfl
  have hsz : w.drew.heap.size = w.heap.size := rfl
  clear h
  rw [hbd] at H4
  go_enter Try.func85, Try.ntmps85
  go_wp2_with fail
  refine H2.out.mono ?_
  rintro e w1 ⟨rfl, rfl⟩
  go_wp2_with fail
  refine H3.out.mono ?_
  rintro e w1 ⟨rfl, rfl⟩
  have e1 : (decide (2 ≤ k) && decide (k < 2 + S.pages)) = true := by simp [h1, h2]
  rw [e1]
  go_wp2_with fail
  refine H4.out.mono ?_
  rintro e w2 ⟨rfl, g2, f2⟩
  have G2 := Lib.hid (show w2.heap[w.heap.size]? = some (.cells (b.map bv).toArray 5 (0, 0)) from g2)
  have F2 := Lib.hid ((Fr.refl C0 w).drew.trans0 f2)
  have q1 := Lib.hid (cells_sub (o := 4) (n := 2) (c := 8188) G2.out (by omega) (by omega) (by unfold maxLen; omega))
  have q2 := Lib.hid (cells_sub (o := 4) (n := 8188) (c := 8188) G2.out (by omega) (by omega) (by unfold maxLen; omega))
  have q3 := Lib.hid (cells_sub (o := 0) (n := 4) (c := 8192) G2.out (by omega) (by omega) (by unfold maxLen; omega))
  clear g2 f2
  go_wp2_with fail
  refine (small_calls q1.out (by rw [List.length_take]; omega)).mono ?_
  rintro e w3 ⟨rfl, rfl⟩
  have hl2 : ((b.drop 4).take 2).length = 2 := by rw [List.length_take, List.length_drop]; omega
  have hlt := smallN_lt ((b.drop 4).take 2)
  rw [hl2] at hlt
  have hpl : smallN ((b.drop 4).take 2) = pageLen b := rfl
  rw [hpl] at hlt ⊢
  have hw : IntKind.i64.wrap (pageLen b : Int) = (pageLen b : Int) := by rw [IntWalk.i64_in _ (by omega)]
  have HS7 := Lib.hid (fun (w_ : World) (hf : Fr C0 w2 w_) => sum_calls (q2.out.fr0 hf) (by rw [List.length_take, List.length_drop]; omega))
  have HS8 := Lib.hid (fun (w_ : World) (hf : Fr C0 w2 w_) => small_calls (q3.out.fr0 hf) (by rw [List.length_take]; omega))
  rw [List.drop_zero] at HS8
  rw [List.take_of_length_le (by rw [List.length_drop]; omega)] at HS7
  have hpo : Hid (pageOf b = if 8186 < pageLen b then none
    else if zeroB (b.drop (6 + pageLen b)) = false then none
    else if crc (b.drop 4) = (smallN (b.take 4) : Int) then some ((b.drop 6).take (pageLen b)) else none) := Lib.hid rfl
  generalize pageLen b = n at *
  clear q1 hl2 hpl
  by_cases hn : 8186 < n
  · rw [if_pos hn] at hpo
    have hn' : (8186 : Int) < (n : Int) := by omega
    go_wp2_with fail
    refine wp_region_L (Fr C0 w2) [] (by kernel_rfl) ?_
    have hSw0 : (Fr C0 w2) _ := (Fr.refl C0 w2).drew
    refine wpAnyL_take 0 (oi := ⟨(some 35), (.move (.tmp 8)), 3, "page.go:205", #[], none⟩) (v := ?v_1) rfl (by kernel_rfl) (fun _ _ _ h => h) hSw0 (yieldsIf_of rfl ?hy_1) ?hrest_1
    case hy_1 => (intro w_ hS_; (first | (go_simp; done) | (go_simp; with_reducible rfl)))
    try simp only [Act.put, List.setIfInBounds_toArray, List.set_cons_zero, List.set_cons_succ]
    refine wpAnyL_take 1 (oi := ⟨(some 36), (.binOp .gtr 3 (.tmp 35) (.const (.int .i64 8186)) 3), 4, "page.go:205", #[⟨0, .data⟩], none⟩) (v := ?v_2) rfl (by kernel_rfl) (fun _ _ _ h => h) hSw0 (yieldsIf_of rfl ?hy_2) ?hrest_2
    case hy_2 => (intro w_ hS_; (first | (go_simp; done) | (go_simp; with_reducible rfl)))
    try simp only [Act.put, List.setIfInBounds_toArray, List.set_cons_zero, List.set_cons_succ]
    refine wpAnyL_take 2 (oi := ⟨(some 37), (.move (.tmp 36)), 4, "page.go:205", #[⟨1, .data⟩], none⟩) (v := ?v_3) rfl (by kernel_rfl) (fun _ _ _ h => h) hSw0 (yieldsIf_of rfl ?hy_3) ?hrest_3
    case hy_3 => (intro w_ hS_; (first | (go_simp; done) | (go_simp; with_reducible rfl)))
    try simp only [Act.put, List.setIfInBounds_toArray, List.set_cons_zero, List.set_cons_succ]
    refine wpAnyL_take 3 (oi := ⟨(some 38), (.move (.tmp 6)), 23, "page.go:205", #[⟨2, .guard⟩], (some (2, false))⟩)  rfl (by kernel_rfl) (fun _ _ _ h => h) hSw0 (yieldsIf_skip rfl) ?hrest_4
    try simp only [Act.put, List.setIfInBounds_toArray, List.set_cons_zero, List.set_cons_succ]
    refine wpAnyL_take 4 (oi := ⟨(some 39), (.move (.tmp 8)), 3, "page.go:205", #[⟨2, .guard⟩], (some (2, false))⟩)  rfl (by kernel_rfl) (fun _ _ _ h => h) hSw0 (yieldsIf_skip rfl) ?hrest_5
    try simp only [Act.put, List.setIfInBounds_toArray, List.set_cons_zero, List.set_cons_succ]
    refine wpAnyL_take 5 (oi := ⟨(some 40), (.binOp .add 3 (.const (.int .i64 6)) (.tmp 39) 3), 3, "page.go:205", #[⟨4, .data⟩, ⟨2, .guard⟩], (some (2, false))⟩)  rfl (by kernel_rfl) (fun _ _ _ h => h) hSw0 (yieldsIf_skip rfl) ?hrest_6
    try simp only [Act.put, List.setIfInBounds_toArray, List.set_cons_zero, List.set_cons_succ]
    refine wpAnyL_take 6 (oi := ⟨(some 41), (.slice 23 (.tmp 38) (some (.tmp 40)) none none), 23, "page.go:205", #[⟨3, .data⟩, ⟨5, .data⟩, ⟨2, .guard⟩], (some (2, false))⟩)  rfl (by kernel_rfl) (fun _ _ _ h => h) hSw0 (yieldsIf_skip rfl) ?hrest_7
    try simp only [Act.put, List.setIfInBounds_toArray, List.set_cons_zero, List.set_cons_succ]
    refine wpAnyL_take 7 (oi := ⟨(some 42), (.call ⟨(.value (.func 94)), #[(.tmp 41)], #[23]⟩), 4, "page.go:205", #[⟨6, .data⟩, ⟨2, .chain⟩, ⟨2, .guard⟩], (some (2, false))⟩)  rfl (by kernel_rfl) (fun _ _ _ h => h) hSw0 (yieldsIf_skip rfl) ?hrest_8
    try simp only [Act.put, List.setIfInBounds_toArray, List.set_cons_zero, List.set_cons_succ]
    refine wpAnyL_take 8 (oi := ⟨(some 43), (.unOp .not 4 (.tmp 42)), 4, "page.go:205", #[⟨7, .data⟩, ⟨2, .guard⟩], (some (2, false))⟩)  rfl (by kernel_rfl) (fun _ _ _ h => h) hSw0 (yieldsIf_skip rfl) ?hrest_9
    try simp only [Act.put, List.setIfInBounds_toArray, List.set_cons_zero, List.set_cons_succ]
    refine wpAnyL_take 9 (oi := ⟨(some 44), (.pick (.tmp 37) (.const (.bool true)) (.tmp 43)), 4, "page.go:205", #[⟨2, .data⟩, ⟨8, .data⟩], none⟩) (v := ?v_10) rfl (by kernel_rfl) (fun _ _ _ h => h) hSw0 (yieldsIf_of rfl ?hy_10) ?hrest_10
    case hy_10 => (intro w_ hS_; (first | (go_simp; done) | (go_simp; with_reducible rfl)))
    try simp only [Act.put, List.setIfInBounds_toArray, List.set_cons_zero, List.set_cons_succ]
    refine wpAnyL_take 10 (oi := ⟨(some 45), (.move (.tmp 44)), 4, "page.go:205", #[⟨9, .data⟩, ⟨7, .chain⟩], none⟩) (v := ?v_11) rfl (by kernel_rfl) (fun _ _ _ h => h) hSw0 (yieldsIf_of rfl ?hy_11) ?hrest_11
    case hy_11 => (intro w_ hS_; (first | (go_simp; done) | (go_simp; with_reducible rfl)))
    try simp only [Act.put, List.setIfInBounds_toArray, List.set_cons_zero, List.set_cons_succ]
    refine wpAnyL_take 11 (oi := ⟨(some 46), (.move (.tmp 6)), 23, "page.go:205", #[⟨10, .guard⟩], (some (10, false))⟩)  rfl (by kernel_rfl) (fun _ _ _ h => h) hSw0 (yieldsIf_skip rfl) ?hrest_12
    try simp only [Act.put, List.setIfInBounds_toArray, List.set_cons_zero, List.set_cons_succ]
    refine wpAnyL_take 12 (oi := ⟨(some 47), (.slice 23 (.tmp 46) (some (.const (.int .i64 4))) none none), 23, "page.go:205", #[⟨11, .data⟩, ⟨10, .guard⟩], (some (10, false))⟩)  rfl (by kernel_rfl) (fun _ _ _ h => h) hSw0 (yieldsIf_skip rfl) ?hrest_13
    try simp only [Act.put, List.setIfInBounds_toArray, List.set_cons_zero, List.set_cons_succ]
    refine wpAnyL_take 13 (oi := ⟨(some 48), (.call ⟨(.value (.func 101)), #[(.tmp 47)], #[23]⟩), 160, "page.go:205", #[⟨12, .data⟩, ⟨10, .chain⟩, ⟨10, .guard⟩], (some (10, false))⟩)  rfl (by kernel_rfl) (fun _ _ _ h => h) hSw0 (yieldsIf_skip rfl) ?hrest_14
    try simp only [Act.put, List.setIfInBounds_toArray, List.set_cons_zero, List.set_cons_succ]
    refine wpAnyL_take 14 (oi := ⟨(some 49), (.convert 160 87 (.tmp 48)), 87, "page.go:205", #[⟨13, .data⟩, ⟨10, .guard⟩], (some (10, false))⟩)  rfl (by kernel_rfl) (fun _ _ _ h => h) hSw0 (yieldsIf_skip rfl) ?hrest_15
    try simp only [Act.put, List.setIfInBounds_toArray, List.set_cons_zero, List.set_cons_succ]
    refine wpAnyL_take 15 (oi := ⟨(some 50), (.move (.tmp 6)), 23, "page.go:205", #[⟨10, .guard⟩], (some (10, false))⟩)  rfl (by kernel_rfl) (fun _ _ _ h => h) hSw0 (yieldsIf_skip rfl) ?hrest_16
    try simp only [Act.put, List.setIfInBounds_toArray, List.set_cons_zero, List.set_cons_succ]
    refine wpAnyL_take 16 (oi := ⟨(some 51), (.slice 23 (.tmp 50) none (some (.const (.int .i64 4))) none), 23, "page.go:205", #[⟨15, .data⟩, ⟨10, .guard⟩], (some (10, false))⟩)  rfl (by kernel_rfl) (fun _ _ _ h => h) hSw0 (yieldsIf_skip rfl) ?hrest_17
    try simp only [Act.put, List.setIfInBounds_toArray, List.set_cons_zero, List.set_cons_succ]
    refine wpAnyL_take 17 (oi := ⟨(some 52), (.call ⟨(.value (.func 95)), #[(.tmp 51)], #[23]⟩), 87, "page.go:205", #[⟨16, .data⟩, ⟨13, .chain⟩, ⟨10, .guard⟩], (some (10, false))⟩)  rfl (by kernel_rfl) (fun _ _ _ h => h) hSw0 (yieldsIf_skip rfl) ?hrest_18
    try simp only [Act.put, List.setIfInBounds_toArray, List.set_cons_zero, List.set_cons_succ]
    refine wpAnyL_take 18 (oi := ⟨(some 53), (.binOp .neq 87 (.tmp 49) (.tmp 52) 87), 4, "page.go:205", #[⟨14, .data⟩, ⟨17, .data⟩, ⟨10, .guard⟩], (some (10, false))⟩)  rfl (by kernel_rfl) (fun _ _ _ h => h) hSw0 (yieldsIf_skip rfl) ?hrest_19
    try simp only [Act.put, List.setIfInBounds_toArray, List.set_cons_zero, List.set_cons_succ]
    refine wpAnyL_take 19 (oi := ⟨(some 54), (.pick (.tmp 45) (.const (.bool true)) (.tmp 53)), 4, "page.go:205", #[⟨10, .data⟩, ⟨18, .data⟩], none⟩) (v := ?v_20) rfl (by kernel_rfl) (fun _ _ _ h => h) hSw0 (yieldsIf_of rfl ?hy_20) ?hrest_20
    case hy_20 => (intro w_ hS_; (first | (go_simp; done) | (go_simp; with_reducible rfl)))
    try simp only [Act.put, List.setIfInBounds_toArray, List.set_cons_zero, List.set_cons_succ]
    refine wpAnyL_done (by kernel_rfl) ?_ _
    go_wp2
    go_ret2
    refine ⟨F2.out.drew, ?_⟩
    rw [hpo.out]
    rfl
  · rw [if_neg hn] at hpo
    have hn' : (n : Int) ≤ 8186 := by omega
    have hdn : decide ((8186 : Int) < (n : Int)) = false := by simp; omega
    have q4 : Hid (BytesAt (fun x => x = w.heap.size) w2 (.slice (if 8192 = 6 + n then some ⟨w.heap.size, 0, none⟩ else some ⟨w.heap.size, 6 + n, none⟩) (8192 - (6 + n)) (8192 - (6 + n))) ((b.drop (6 + n)).take (8192 - (6 + n)))) := by
      refine Lib.hid ?_
      by_cases h8 : 8192 = 6 + n
      · rw [if_pos h8, show 8192 - (6 + n) = 0 by omega, List.take_zero]
        exact ⟨_, 0, rfl, Nat.le_refl _, by unfold maxLen; omega, fun h => absurd rfl h⟩
      · rw [if_neg h8]
        exact cells_sub (o := 6 + n) (n := 8192 - (6 + n)) (c := 8192 - (6 + n)) G2.out (by omega) (by omega) (by unfold maxLen; omega)
    have HZ := Lib.hid (fun (w_ : World) (hf : Fr C0 w2 w_) => zeroB_calls (q4.out.fr0 hf) (by rw [List.length_take]; omega))
    rw [List.take_of_length_le (by rw [List.length_drop]; omega)] at HZ
    have ew : IntKind.i64.wrap (6 + (n : Int)) = ((6 + n : Nat) : Int) := by rw [IntWalk.i64_in _ (by omega)]; omega
    have et : (6 + (n : Int)).toNat = 6 + n := by omega
    have ez : (0 : Int) ≤ 6 + (n : Int) := by omega
    have ey : 6 + (n : Int) ≤ 8192 := by omega
    clear q4
    cases hz : zeroB (b.drop (6 + n)) with
    | false =>
      rw [hz] at hpo HZ
      go_wp2_with fail
      refine wp_region_L (Fr C0 w2) [] (by kernel_rfl) ?_
      have hSw0 : (Fr C0 w2) _ := (Fr.refl C0 w2).drew
      refine wpAnyL_take 0 (oi := ⟨(some 35), (.move (.tmp 8)), 3, "page.go:205", #[], none⟩) (v := ?v_21) rfl (by kernel_rfl) (fun _ _ _ h => h) hSw0 (yieldsIf_of rfl ?hy_21) ?hrest_21
      case hy_21 => (intro w_ hS_; (first | (go_simp; done) | (go_simp; with_reducible rfl)))
      try simp only [Act.put, List.setIfInBounds_toArray, List.set_cons_zero, List.set_cons_succ]
      refine wpAnyL_take 1 (oi := ⟨(some 36), (.binOp .gtr 3 (.tmp 35) (.const (.int .i64 8186)) 3), 4, "page.go:205", #[⟨0, .data⟩], none⟩) (v := ?v_22) rfl (by kernel_rfl) (fun _ _ _ h => h) hSw0 (yieldsIf_of rfl ?hy_22) ?hrest_22
      case hy_22 => (intro w_ hS_; (first | (go_simp; done) | (go_simp; with_reducible rfl)))
      try simp only [Act.put, List.setIfInBounds_toArray, List.set_cons_zero, List.set_cons_succ]
      refine wpAnyL_take 2 (oi := ⟨(some 37), (.move (.tmp 36)), 4, "page.go:205", #[⟨1, .data⟩], none⟩) (v := ?v_23) rfl (by kernel_rfl) (fun _ _ _ h => h) hSw0 (yieldsIf_of rfl ?hy_23) ?hrest_23
      case hy_23 => (intro w_ hS_; (first | (go_simp; done) | (go_simp; with_reducible rfl)))
      try simp only [Act.put, List.setIfInBounds_toArray, List.set_cons_zero, List.set_cons_succ]
      refine wpAnyL_take 3 (oi := ⟨(some 38), (.move (.tmp 6)), 23, "page.go:205", #[⟨2, .guard⟩], (some (2, false))⟩) (v := ?v_24) rfl (by kernel_rfl) (fun _ _ _ h => h) hSw0 (yieldsIf_of rfl ?hy_24) ?hrest_24
      case hy_24 => (intro w_ hS_; (first | (go_simp; done) | (go_simp; with_reducible rfl)))
      try simp only [Act.put, List.setIfInBounds_toArray, List.set_cons_zero, List.set_cons_succ]
      refine wpAnyL_take 4 (oi := ⟨(some 39), (.move (.tmp 8)), 3, "page.go:205", #[⟨2, .guard⟩], (some (2, false))⟩) (v := ?v_25) rfl (by kernel_rfl) (fun _ _ _ h => h) hSw0 (yieldsIf_of rfl ?hy_25) ?hrest_25
      case hy_25 => (intro w_ hS_; (first | (go_simp; done) | (go_simp; with_reducible rfl)))
      try simp only [Act.put, List.setIfInBounds_toArray, List.set_cons_zero, List.set_cons_succ]
      refine wpAnyL_take 5 (oi := ⟨(some 40), (.binOp .add 3 (.const (.int .i64 6)) (.tmp 39) 3), 3, "page.go:205", #[⟨4, .data⟩, ⟨2, .guard⟩], (some (2, false))⟩) (v := ?v_26) rfl (by kernel_rfl) (fun _ _ _ h => h) hSw0 (yieldsIf_of rfl ?hy_26) ?hrest_26
      case hy_26 => (intro w_ hS_; (first | (go_simp; done) | (go_simp; with_reducible rfl)))
      try simp only [Act.put, List.setIfInBounds_toArray, List.set_cons_zero, List.set_cons_succ]
      refine wpAnyL_take 6 (oi := ⟨(some 41), (.slice 23 (.tmp 38) (some (.tmp 40)) none none), 23, "page.go:205", #[⟨3, .data⟩, ⟨5, .data⟩, ⟨2, .guard⟩], (some (2, false))⟩) (v := ?v_27) rfl (by kernel_rfl) (fun _ _ _ h => h) hSw0 (yieldsIf_of rfl ?hy_27) ?hrest_27
      case hy_27 => (intro w_ hS_; (first | (go_simp; done) | (go_simp; with_reducible rfl)))
      try simp only [Act.put, List.setIfInBounds_toArray, List.set_cons_zero, List.set_cons_succ]
      refine wpAnyL_one 7 (o := ⟨(some 42), (.call ⟨(.value (.func 94)), #[(.tmp 41)], #[23]⟩), 4, "page.go:205", #[⟨6, .data⟩, ⟨2, .chain⟩, ⟨2, .guard⟩], (some (2, false))⟩) rfl (by kernel_rfl) rfl (by kernel_rfl) (fun K hK => ?_)
      go_simp
      refine (HZ.out _ (by assumption)).mono ?_
      rintro e w4 ⟨rfl, f4⟩
      simp only []
      have F4 := Lib.hid ((show Fr C0 w2 _ by assumption).trans0 f4)
      refine hK.out _ _ ?kS28 (fun hSw1 => ?kR28)
      case kS28 => exact F4.out
      clear hK K
      try simp only [Act.put, List.setIfInBounds_toArray, List.set_cons_zero, List.set_cons_succ]
      refine wpAnyL_take 8 (oi := ⟨(some 43), (.unOp .not 4 (.tmp 42)), 4, "page.go:205", #[⟨7, .data⟩, ⟨2, .guard⟩], (some (2, false))⟩) (v := ?v_29) rfl (by kernel_rfl) (fun _ _ _ h => h) hSw1 (yieldsIf_of rfl ?hy_29) ?hrest_29
      case hy_29 => (intro w_ hS_; (first | (go_simp; done) | (go_simp; with_reducible rfl)))
      try simp only [Act.put, List.setIfInBounds_toArray, List.set_cons_zero, List.set_cons_succ]
      refine wpAnyL_take 9 (oi := ⟨(some 44), (.pick (.tmp 37) (.const (.bool true)) (.tmp 43)), 4, "page.go:205", #[⟨2, .data⟩, ⟨8, .data⟩], none⟩) (v := ?v_30) rfl (by kernel_rfl) (fun _ _ _ h => h) hSw1 (yieldsIf_of rfl ?hy_30) ?hrest_30
      case hy_30 => (intro w_ hS_; (first | (go_simp; done) | (go_simp; with_reducible rfl)))
      try simp only [Act.put, List.setIfInBounds_toArray, List.set_cons_zero, List.set_cons_succ]
      refine wpAnyL_take 10 (oi := ⟨(some 45), (.move (.tmp 44)), 4, "page.go:205", #[⟨9, .data⟩, ⟨7, .chain⟩], none⟩) (v := ?v_31) rfl (by kernel_rfl) (fun _ _ _ h => h) hSw1 (yieldsIf_of rfl ?hy_31) ?hrest_31
      case hy_31 => (intro w_ hS_; (first | (go_simp; done) | (go_simp; with_reducible rfl)))
      try simp only [Act.put, List.setIfInBounds_toArray, List.set_cons_zero, List.set_cons_succ]
      refine wpAnyL_take 11 (oi := ⟨(some 46), (.move (.tmp 6)), 23, "page.go:205", #[⟨10, .guard⟩], (some (10, false))⟩)  rfl (by kernel_rfl) (fun _ _ _ h => h) hSw1 (yieldsIf_skip rfl) ?hrest_32
      try simp only [Act.put, List.setIfInBounds_toArray, List.set_cons_zero, List.set_cons_succ]
      refine wpAnyL_take 12 (oi := ⟨(some 47), (.slice 23 (.tmp 46) (some (.const (.int .i64 4))) none none), 23, "page.go:205", #[⟨11, .data⟩, ⟨10, .guard⟩], (some (10, false))⟩)  rfl (by kernel_rfl) (fun _ _ _ h => h) hSw1 (yieldsIf_skip rfl) ?hrest_33
      try simp only [Act.put, List.setIfInBounds_toArray, List.set_cons_zero, List.set_cons_succ]
      refine wpAnyL_take 13 (oi := ⟨(some 48), (.call ⟨(.value (.func 101)), #[(.tmp 47)], #[23]⟩), 160, "page.go:205", #[⟨12, .data⟩, ⟨10, .chain⟩, ⟨10, .guard⟩], (some (10, false))⟩)  rfl (by kernel_rfl) (fun _ _ _ h => h) hSw1 (yieldsIf_skip rfl) ?hrest_34
      try simp only [Act.put, List.setIfInBounds_toArray, List.set_cons_zero, List.set_cons_succ]
      refine wpAnyL_take 14 (oi := ⟨(some 49), (.convert 160 87 (.tmp 48)), 87, "page.go:205", #[⟨13, .data⟩, ⟨10, .guard⟩], (some (10, false))⟩)  rfl (by kernel_rfl) (fun _ _ _ h => h) hSw1 (yieldsIf_skip rfl) ?hrest_35
      try simp only [Act.put, List.setIfInBounds_toArray, List.set_cons_zero, List.set_cons_succ]
      refine wpAnyL_take 15 (oi := ⟨(some 50), (.move (.tmp 6)), 23, "page.go:205", #[⟨10, .guard⟩], (some (10, false))⟩)  rfl (by kernel_rfl) (fun _ _ _ h => h) hSw1 (yieldsIf_skip rfl) ?hrest_36
      try simp only [Act.put, List.setIfInBounds_toArray, List.set_cons_zero, List.set_cons_succ]
      refine wpAnyL_take 16 (oi := ⟨(some 51), (.slice 23 (.tmp 50) none (some (.const (.int .i64 4))) none), 23, "page.go:205", #[⟨15, .data⟩, ⟨10, .guard⟩], (some (10, false))⟩)  rfl (by kernel_rfl) (fun _ _ _ h => h) hSw1 (yieldsIf_skip rfl) ?hrest_37
      try simp only [Act.put, List.setIfInBounds_toArray, List.set_cons_zero, List.set_cons_succ]
      refine wpAnyL_take 17 (oi := ⟨(some 52), (.call ⟨(.value (.func 95)), #[(.tmp 51)], #[23]⟩), 87, "page.go:205", #[⟨16, .data⟩, ⟨13, .chain⟩, ⟨10, .guard⟩], (some (10, false))⟩)  rfl (by kernel_rfl) (fun _ _ _ h => h) hSw1 (yieldsIf_skip rfl) ?hrest_38
      try simp only [Act.put, List.setIfInBounds_toArray, List.set_cons_zero, List.set_cons_succ]
      refine wpAnyL_take 18 (oi := ⟨(some 53), (.binOp .neq 87 (.tmp 49) (.tmp 52) 87), 4, "page.go:205", #[⟨14, .data⟩, ⟨17, .data⟩, ⟨10, .guard⟩], (some (10, false))⟩)  rfl (by kernel_rfl) (fun _ _ _ h => h) hSw1 (yieldsIf_skip rfl) ?hrest_39
      try simp only [Act.put, List.setIfInBounds_toArray, List.set_cons_zero, List.set_cons_succ]
      refine wpAnyL_take 19 (oi := ⟨(some 54), (.pick (.tmp 45) (.const (.bool true)) (.tmp 53)), 4, "page.go:205", #[⟨10, .data⟩, ⟨18, .data⟩], none⟩) (v := ?v_40) rfl (by kernel_rfl) (fun _ _ _ h => h) hSw1 (yieldsIf_of rfl ?hy_40) ?hrest_40
      case hy_40 => (intro w_ hS_; (first | (go_simp; done) | (go_simp; with_reducible rfl)))
      try simp only [Act.put, List.setIfInBounds_toArray, List.set_cons_zero, List.set_cons_succ]
      refine wpAnyL_done (by kernel_rfl) ?_ _
      go_wp2
      all_goals
        go_ret2
        refine ⟨F2.out.trans0 F4.out, ?_⟩
        rw [hpo.out]
        rfl
    | true =>
      rw [hz] at hpo HZ
      rw [if_neg (by simp)] at hpo
      obtain ⟨u1, u2⟩ := crc_u (b.drop 4)
      have hc64 : IntKind.u64.wrap (crc (b.drop 4)) = crc (b.drop 4) := wraps_u64 _ u1 (by omega)
      have hq6 := Lib.hid (cells_sub (o := 6) (n := n) (c := n) G2.out (by omega) (by omega) (by unfold maxLen; omega))
      go_wp2_with fail
      by_cases heq : crc (b.drop 4) = (smallN (b.take 4) : Int)
      · rw [if_pos heq] at hpo
        rw [← heq] at HS8
        generalize crc (b.drop 4) = X at *
        clear heq
        refine wp_region_L (Fr C0 w2) [] (by kernel_rfl) ?_
        have hSw0 : (Fr C0 w2) _ := (Fr.refl C0 w2).drew
        refine wpAnyL_take 0 (oi := ⟨(some 35), (.move (.tmp 8)), 3, "page.go:205", #[], none⟩) (v := ?v_41) rfl (by kernel_rfl) (fun _ _ _ h => h) hSw0 (yieldsIf_of rfl ?hy_41) ?hrest_41
        case hy_41 => (intro w_ hS_; (first | (go_simp; done) | (go_simp; with_reducible rfl)))
        try simp only [Act.put, List.setIfInBounds_toArray, List.set_cons_zero, List.set_cons_succ]
        refine wpAnyL_take 1 (oi := ⟨(some 36), (.binOp .gtr 3 (.tmp 35) (.const (.int .i64 8186)) 3), 4, "page.go:205", #[⟨0, .data⟩], none⟩) (v := ?v_42) rfl (by kernel_rfl) (fun _ _ _ h => h) hSw0 (yieldsIf_of rfl ?hy_42) ?hrest_42
        case hy_42 => (intro w_ hS_; (first | (go_simp; done) | (go_simp; with_reducible rfl)))
        try simp only [Act.put, List.setIfInBounds_toArray, List.set_cons_zero, List.set_cons_succ]
        refine wpAnyL_take 2 (oi := ⟨(some 37), (.move (.tmp 36)), 4, "page.go:205", #[⟨1, .data⟩], none⟩) (v := ?v_43) rfl (by kernel_rfl) (fun _ _ _ h => h) hSw0 (yieldsIf_of rfl ?hy_43) ?hrest_43
        case hy_43 => (intro w_ hS_; (first | (go_simp; done) | (go_simp; with_reducible rfl)))
        try simp only [Act.put, List.setIfInBounds_toArray, List.set_cons_zero, List.set_cons_succ]
        refine wpAnyL_take 3 (oi := ⟨(some 38), (.move (.tmp 6)), 23, "page.go:205", #[⟨2, .guard⟩], (some (2, false))⟩) (v := ?v_44) rfl (by kernel_rfl) (fun _ _ _ h => h) hSw0 (yieldsIf_of rfl ?hy_44) ?hrest_44
        case hy_44 => (intro w_ hS_; (first | (go_simp; done) | (go_simp; with_reducible rfl)))
        try simp only [Act.put, List.setIfInBounds_toArray, List.set_cons_zero, List.set_cons_succ]
        refine wpAnyL_take 4 (oi := ⟨(some 39), (.move (.tmp 8)), 3, "page.go:205", #[⟨2, .guard⟩], (some (2, false))⟩) (v := ?v_45) rfl (by kernel_rfl) (fun _ _ _ h => h) hSw0 (yieldsIf_of rfl ?hy_45) ?hrest_45
        case hy_45 => (intro w_ hS_; (first | (go_simp; done) | (go_simp; with_reducible rfl)))
        try simp only [Act.put, List.setIfInBounds_toArray, List.set_cons_zero, List.set_cons_succ]
        refine wpAnyL_take 5 (oi := ⟨(some 40), (.binOp .add 3 (.const (.int .i64 6)) (.tmp 39) 3), 3, "page.go:205", #[⟨4, .data⟩, ⟨2, .guard⟩], (some (2, false))⟩) (v := ?v_46) rfl (by kernel_rfl) (fun _ _ _ h => h) hSw0 (yieldsIf_of rfl ?hy_46) ?hrest_46
        case hy_46 => (intro w_ hS_; (first | (go_simp; done) | (go_simp; with_reducible rfl)))
        try simp only [Act.put, List.setIfInBounds_toArray, List.set_cons_zero, List.set_cons_succ]
        refine wpAnyL_take 6 (oi := ⟨(some 41), (.slice 23 (.tmp 38) (some (.tmp 40)) none none), 23, "page.go:205", #[⟨3, .data⟩, ⟨5, .data⟩, ⟨2, .guard⟩], (some (2, false))⟩) (v := ?v_47) rfl (by kernel_rfl) (fun _ _ _ h => h) hSw0 (yieldsIf_of rfl ?hy_47) ?hrest_47
        case hy_47 => (intro w_ hS_; (first | (go_simp; done) | (go_simp; with_reducible rfl)))
        try simp only [Act.put, List.setIfInBounds_toArray, List.set_cons_zero, List.set_cons_succ]
        refine wpAnyL_one 7 (o := ⟨(some 42), (.call ⟨(.value (.func 94)), #[(.tmp 41)], #[23]⟩), 4, "page.go:205", #[⟨6, .data⟩, ⟨2, .chain⟩, ⟨2, .guard⟩], (some (2, false))⟩) rfl (by kernel_rfl) rfl (by kernel_rfl) (fun K hK => ?_)
        go_simp
        refine (HZ.out _ (by assumption)).mono ?_
        rintro e w4 ⟨rfl, f4⟩
        simp only []
        have F4 := Lib.hid ((show Fr C0 w2 _ by assumption).trans0 f4)
        refine hK.out _ _ ?kS48 (fun hSw1 => ?kR48)
        case kS48 => exact F4.out
        clear hK K
        try simp only [Act.put, List.setIfInBounds_toArray, List.set_cons_zero, List.set_cons_succ]
        refine wpAnyL_take 8 (oi := ⟨(some 43), (.unOp .not 4 (.tmp 42)), 4, "page.go:205", #[⟨7, .data⟩, ⟨2, .guard⟩], (some (2, false))⟩) (v := ?v_49) rfl (by kernel_rfl) (fun _ _ _ h => h) hSw1 (yieldsIf_of rfl ?hy_49) ?hrest_49
        case hy_49 => (intro w_ hS_; (first | (go_simp; done) | (go_simp; with_reducible rfl)))
        try simp only [Act.put, List.setIfInBounds_toArray, List.set_cons_zero, List.set_cons_succ]
        refine wpAnyL_take 9 (oi := ⟨(some 44), (.pick (.tmp 37) (.const (.bool true)) (.tmp 43)), 4, "page.go:205", #[⟨2, .data⟩, ⟨8, .data⟩], none⟩) (v := ?v_50) rfl (by kernel_rfl) (fun _ _ _ h => h) hSw1 (yieldsIf_of rfl ?hy_50) ?hrest_50
        case hy_50 => (intro w_ hS_; (first | (go_simp; done) | (go_simp; with_reducible rfl)))
        try simp only [Act.put, List.setIfInBounds_toArray, List.set_cons_zero, List.set_cons_succ]
        refine wpAnyL_take 10 (oi := ⟨(some 45), (.move (.tmp 44)), 4, "page.go:205", #[⟨9, .data⟩, ⟨7, .chain⟩], none⟩) (v := ?v_51) rfl (by kernel_rfl) (fun _ _ _ h => h) hSw1 (yieldsIf_of rfl ?hy_51) ?hrest_51
        case hy_51 => (intro w_ hS_; (first | (go_simp; done) | (go_simp; with_reducible rfl)))
        try simp only [Act.put, List.setIfInBounds_toArray, List.set_cons_zero, List.set_cons_succ]
        refine wpAnyL_take 11 (oi := ⟨(some 46), (.move (.tmp 6)), 23, "page.go:205", #[⟨10, .guard⟩], (some (10, false))⟩) (v := ?v_52) rfl (by kernel_rfl) (fun _ _ _ h => h) hSw1 (yieldsIf_of rfl ?hy_52) ?hrest_52
        case hy_52 => (intro w_ hS_; (first | (go_simp; done) | (go_simp; with_reducible rfl)))
        try simp only [Act.put, List.setIfInBounds_toArray, List.set_cons_zero, List.set_cons_succ]
        refine wpAnyL_take 12 (oi := ⟨(some 47), (.slice 23 (.tmp 46) (some (.const (.int .i64 4))) none none), 23, "page.go:205", #[⟨11, .data⟩, ⟨10, .guard⟩], (some (10, false))⟩) (v := ?v_53) rfl (by kernel_rfl) (fun _ _ _ h => h) hSw1 (yieldsIf_of rfl ?hy_53) ?hrest_53
        case hy_53 => (intro w_ hS_; (first | (go_simp; done) | (go_simp; with_reducible rfl)))
        try simp only [Act.put, List.setIfInBounds_toArray, List.set_cons_zero, List.set_cons_succ]
        refine wpAnyL_take 15 (oi := ⟨(some 50), (.move (.tmp 6)), 23, "page.go:205", #[⟨10, .guard⟩], (some (10, false))⟩) (v := ?v_54) rfl (by kernel_rfl) (fun _ _ _ h => h) hSw1 (yieldsIf_of rfl ?hy_54) ?hrest_54
        case hy_54 => (intro w_ hS_; (first | (go_simp; done) | (go_simp; with_reducible rfl)))
        try simp only [Act.put, List.setIfInBounds_toArray, List.set_cons_zero, List.set_cons_succ]
        refine wpAnyL_take 16 (oi := ⟨(some 51), (.slice 23 (.tmp 50) none (some (.const (.int .i64 4))) none), 23, "page.go:205", #[⟨15, .data⟩, ⟨10, .guard⟩], (some (10, false))⟩) (v := ?v_55) rfl (by kernel_rfl) (fun _ _ _ h => h) hSw1 (yieldsIf_of rfl ?hy_55) ?hrest_55
        case hy_55 => (intro w_ hS_; (first | (go_simp; done) | (go_simp; with_reducible rfl)))
        try simp only [Act.put, List.setIfInBounds_toArray, List.set_cons_zero, List.set_cons_succ]
        refine wpAnyL_one 13 (o := ⟨(some 48), (.call ⟨(.value (.func 101)), #[(.tmp 47)], #[23]⟩), 160, "page.go:205", #[⟨12, .data⟩, ⟨10, .chain⟩, ⟨10, .guard⟩], (some (10, false))⟩) rfl (by kernel_rfl) rfl (by kernel_rfl) (fun K hK => ?_)
        go_simp
        refine (HS7.out _ (by assumption)).mono ?_
        rintro e w5 ⟨rfl, f5⟩
        simp only []
        have F5 := Lib.hid ((show Fr C0 w2 _ by assumption).trans0 f5)
        refine hK.out _ _ ?kS56 (fun hSw2 => ?kR56)
        case kS56 => exact F5.out
        clear hK K
        try simp only [Act.put, List.setIfInBounds_toArray, List.set_cons_zero, List.set_cons_succ]
        refine wpAnyL_take 14 (oi := ⟨(some 49), (.convert 160 87 (.tmp 48)), 87, "page.go:205", #[⟨13, .data⟩, ⟨10, .guard⟩], (some (10, false))⟩) (v := ?v_57) rfl (by kernel_rfl) (fun _ _ _ h => h) hSw2 (yieldsIf_of rfl ?hy_57) ?hrest_57
        case hy_57 => (intro w_ hS_; (first | (go_simp; done) | (go_simp; with_reducible rfl)))
        try simp only [Act.put, List.setIfInBounds_toArray, List.set_cons_zero, List.set_cons_succ]
        refine wpAnyL_one 17 (o := ⟨(some 52), (.call ⟨(.value (.func 95)), #[(.tmp 51)], #[23]⟩), 87, "page.go:205", #[⟨16, .data⟩, ⟨13, .chain⟩, ⟨10, .guard⟩], (some (10, false))⟩) rfl (by kernel_rfl) rfl (by kernel_rfl) (fun K hK => ?_)
        go_simp
        refine (HS8.out _ (by assumption)).mono ?_
        rintro e w6 ⟨rfl, rfl⟩
        simp only []
        refine hK.out _ _ ?kS58 (fun hSw3 => ?kR58)
        case kS58 => assumption
        clear hK K
        try simp only [Act.put, List.setIfInBounds_toArray, List.set_cons_zero, List.set_cons_succ]
        refine wpAnyL_take 18 (oi := ⟨(some 53), (.binOp .neq 87 (.tmp 49) (.tmp 52) 87), 4, "page.go:205", #[⟨14, .data⟩, ⟨17, .data⟩, ⟨10, .guard⟩], (some (10, false))⟩) (v := ?v_59) rfl (by kernel_rfl) (fun _ _ _ h => h) hSw3 (yieldsIf_of rfl ?hy_59) ?hrest_59
        case hy_59 => (intro w_ hS_; (first | (go_simp; done) | (go_simp; with_reducible rfl)))
        try simp only [Act.put, List.setIfInBounds_toArray, List.set_cons_zero, List.set_cons_succ]
        refine wpAnyL_take 19 (oi := ⟨(some 54), (.pick (.tmp 45) (.const (.bool true)) (.tmp 53)), 4, "page.go:205", #[⟨10, .data⟩, ⟨18, .data⟩], none⟩) (v := ?v_60) rfl (by kernel_rfl) (fun _ _ _ h => h) hSw3 (yieldsIf_of rfl ?hy_60) ?hrest_60
        case hy_60 => (intro w_ hS_; (first | (go_simp; done) | (go_simp; with_reducible rfl)))
        try simp only [Act.put, List.setIfInBounds_toArray, List.set_cons_zero, List.set_cons_succ]
        refine wpAnyL_done (by kernel_rfl) ?_ _
        go_wp2
        all_goals
          go_ret2
          refine ⟨F2.out.trans0 F5.out, ?_⟩
          rw [hpo.out]
          refine ⟨_, rfl, ?_⟩
          first
            | exact (hq6.out.fr0 F5.out).mono (fun b hb _ => by rw [hb]; exact Nat.le_refl _)
            | (obtain rfl : n = 0 := by omega
               exact ⟨_, 0, rfl, Nat.le_refl _, by unfold maxLen; omega, fun h => absurd (List.take_zero) h⟩)
      · rw [if_neg heq] at hpo
        have hne : (crc (b.drop 4) != (smallN (b.take 4) : Int)) = true := by simp [bne, beq_dec, heq]
        generalize crc (b.drop 4) = X at *
        generalize smallN (b.take 4) = Y at *
        have HNE := Lib.hid hne
        have hbe : (X == (Y : Int)) = false := by simp [beq_dec, heq]
        clear hne heq
        refine wp_region_L (Fr C0 w2) [] (by kernel_rfl) ?_
        have hSw0 : (Fr C0 w2) _ := (Fr.refl C0 w2).drew
        refine wpAnyL_take 0 (oi := ⟨(some 35), (.move (.tmp 8)), 3, "page.go:205", #[], none⟩) (v := ?v_61) rfl (by kernel_rfl) (fun _ _ _ h => h) hSw0 (yieldsIf_of rfl ?hy_61) ?hrest_61
        case hy_61 => (intro w_ hS_; (first | (go_simp; done) | (go_simp; with_reducible rfl)))
        try simp only [Act.put, List.setIfInBounds_toArray, List.set_cons_zero, List.set_cons_succ]
        refine wpAnyL_take 1 (oi := ⟨(some 36), (.binOp .gtr 3 (.tmp 35) (.const (.int .i64 8186)) 3), 4, "page.go:205", #[⟨0, .data⟩], none⟩) (v := ?v_62) rfl (by kernel_rfl) (fun _ _ _ h => h) hSw0 (yieldsIf_of rfl ?hy_62) ?hrest_62
        case hy_62 => (intro w_ hS_; (first | (go_simp; done) | (go_simp; with_reducible rfl)))
        try simp only [Act.put, List.setIfInBounds_toArray, List.set_cons_zero, List.set_cons_succ]
        refine wpAnyL_take 2 (oi := ⟨(some 37), (.move (.tmp 36)), 4, "page.go:205", #[⟨1, .data⟩], none⟩) (v := ?v_63) rfl (by kernel_rfl) (fun _ _ _ h => h) hSw0 (yieldsIf_of rfl ?hy_63) ?hrest_63
        case hy_63 => (intro w_ hS_; (first | (go_simp; done) | (go_simp; with_reducible rfl)))
        try simp only [Act.put, List.setIfInBounds_toArray, List.set_cons_zero, List.set_cons_succ]
        refine wpAnyL_take 3 (oi := ⟨(some 38), (.move (.tmp 6)), 23, "page.go:205", #[⟨2, .guard⟩], (some (2, false))⟩) (v := ?v_64) rfl (by kernel_rfl) (fun _ _ _ h => h) hSw0 (yieldsIf_of rfl ?hy_64) ?hrest_64
        case hy_64 => (intro w_ hS_; (first | (go_simp; done) | (go_simp; with_reducible rfl)))
        try simp only [Act.put, List.setIfInBounds_toArray, List.set_cons_zero, List.set_cons_succ]
        refine wpAnyL_take 4 (oi := ⟨(some 39), (.move (.tmp 8)), 3, "page.go:205", #[⟨2, .guard⟩], (some (2, false))⟩) (v := ?v_65) rfl (by kernel_rfl) (fun _ _ _ h => h) hSw0 (yieldsIf_of rfl ?hy_65) ?hrest_65
        case hy_65 => (intro w_ hS_; (first | (go_simp; done) | (go_simp; with_reducible rfl)))
        try simp only [Act.put, List.setIfInBounds_toArray, List.set_cons_zero, List.set_cons_succ]
        refine wpAnyL_take 5 (oi := ⟨(some 40), (.binOp .add 3 (.const (.int .i64 6)) (.tmp 39) 3), 3, "page.go:205", #[⟨4, .data⟩, ⟨2, .guard⟩], (some (2, false))⟩) (v := ?v_66) rfl (by kernel_rfl) (fun _ _ _ h => h) hSw0 (yieldsIf_of rfl ?hy_66) ?hrest_66
        case hy_66 => (intro w_ hS_; (first | (go_simp; done) | (go_simp; with_reducible rfl)))
        try simp only [Act.put, List.setIfInBounds_toArray, List.set_cons_zero, List.set_cons_succ]
        refine wpAnyL_take 6 (oi := ⟨(some 41), (.slice 23 (.tmp 38) (some (.tmp 40)) none none), 23, "page.go:205", #[⟨3, .data⟩, ⟨5, .data⟩, ⟨2, .guard⟩], (some (2, false))⟩) (v := ?v_67) rfl (by kernel_rfl) (fun _ _ _ h => h) hSw0 (yieldsIf_of rfl ?hy_67) ?hrest_67
        case hy_67 => (intro w_ hS_; (first | (go_simp; done) | (go_simp; with_reducible rfl)))
        try simp only [Act.put, List.setIfInBounds_toArray, List.set_cons_zero, List.set_cons_succ]
        refine wpAnyL_one 7 (o := ⟨(some 42), (.call ⟨(.value (.func 94)), #[(.tmp 41)], #[23]⟩), 4, "page.go:205", #[⟨6, .data⟩, ⟨2, .chain⟩, ⟨2, .guard⟩], (some (2, false))⟩) rfl (by kernel_rfl) rfl (by kernel_rfl) (fun K hK => ?_)
        go_simp
        refine (HZ.out _ (by assumption)).mono ?_
        rintro e w4 ⟨rfl, f4⟩
        simp only []
        have F4 := Lib.hid ((show Fr C0 w2 _ by assumption).trans0 f4)
        refine hK.out _ _ ?kS68 (fun hSw1 => ?kR68)
        case kS68 => exact F4.out
        clear hK K
        try simp only [Act.put, List.setIfInBounds_toArray, List.set_cons_zero, List.set_cons_succ]
        refine wpAnyL_take 8 (oi := ⟨(some 43), (.unOp .not 4 (.tmp 42)), 4, "page.go:205", #[⟨7, .data⟩, ⟨2, .guard⟩], (some (2, false))⟩) (v := ?v_69) rfl (by kernel_rfl) (fun _ _ _ h => h) hSw1 (yieldsIf_of rfl ?hy_69) ?hrest_69
        case hy_69 => (intro w_ hS_; (first | (go_simp; done) | (go_simp; with_reducible rfl)))
        try simp only [Act.put, List.setIfInBounds_toArray, List.set_cons_zero, List.set_cons_succ]
        refine wpAnyL_take 9 (oi := ⟨(some 44), (.pick (.tmp 37) (.const (.bool true)) (.tmp 43)), 4, "page.go:205", #[⟨2, .data⟩, ⟨8, .data⟩], none⟩) (v := ?v_70) rfl (by kernel_rfl) (fun _ _ _ h => h) hSw1 (yieldsIf_of rfl ?hy_70) ?hrest_70
        case hy_70 => (intro w_ hS_; (first | (go_simp; done) | (go_simp; with_reducible rfl)))
        try simp only [Act.put, List.setIfInBounds_toArray, List.set_cons_zero, List.set_cons_succ]
        refine wpAnyL_take 10 (oi := ⟨(some 45), (.move (.tmp 44)), 4, "page.go:205", #[⟨9, .data⟩, ⟨7, .chain⟩], none⟩) (v := ?v_71) rfl (by kernel_rfl) (fun _ _ _ h => h) hSw1 (yieldsIf_of rfl ?hy_71) ?hrest_71
        case hy_71 => (intro w_ hS_; (first | (go_simp; done) | (go_simp; with_reducible rfl)))
        try simp only [Act.put, List.setIfInBounds_toArray, List.set_cons_zero, List.set_cons_succ]
        refine wpAnyL_take 11 (oi := ⟨(some 46), (.move (.tmp 6)), 23, "page.go:205", #[⟨10, .guard⟩], (some (10, false))⟩) (v := ?v_72) rfl (by kernel_rfl) (fun _ _ _ h => h) hSw1 (yieldsIf_of rfl ?hy_72) ?hrest_72
        case hy_72 => (intro w_ hS_; (first | (go_simp; done) | (go_simp; with_reducible rfl)))
        try simp only [Act.put, List.setIfInBounds_toArray, List.set_cons_zero, List.set_cons_succ]
        refine wpAnyL_take 12 (oi := ⟨(some 47), (.slice 23 (.tmp 46) (some (.const (.int .i64 4))) none none), 23, "page.go:205", #[⟨11, .data⟩, ⟨10, .guard⟩], (some (10, false))⟩) (v := ?v_73) rfl (by kernel_rfl) (fun _ _ _ h => h) hSw1 (yieldsIf_of rfl ?hy_73) ?hrest_73
        case hy_73 => (intro w_ hS_; (first | (go_simp; done) | (go_simp; with_reducible rfl)))
        try simp only [Act.put, List.setIfInBounds_toArray, List.set_cons_zero, List.set_cons_succ]
        refine wpAnyL_take 15 (oi := ⟨(some 50), (.move (.tmp 6)), 23, "page.go:205", #[⟨10, .guard⟩], (some (10, false))⟩) (v := ?v_74) rfl (by kernel_rfl) (fun _ _ _ h => h) hSw1 (yieldsIf_of rfl ?hy_74) ?hrest_74
        case hy_74 => (intro w_ hS_; (first | (go_simp; done) | (go_simp; with_reducible rfl)))
        try simp only [Act.put, List.setIfInBounds_toArray, List.set_cons_zero, List.set_cons_succ]
        refine wpAnyL_take 16 (oi := ⟨(some 51), (.slice 23 (.tmp 50) none (some (.const (.int .i64 4))) none), 23, "page.go:205", #[⟨15, .data⟩, ⟨10, .guard⟩], (some (10, false))⟩) (v := ?v_75) rfl (by kernel_rfl) (fun _ _ _ h => h) hSw1 (yieldsIf_of rfl ?hy_75) ?hrest_75
        case hy_75 => (intro w_ hS_; (first | (go_simp; done) | (go_simp; with_reducible rfl)))
        try simp only [Act.put, List.setIfInBounds_toArray, List.set_cons_zero, List.set_cons_succ]
        refine wpAnyL_one 13 (o := ⟨(some 48), (.call ⟨(.value (.func 101)), #[(.tmp 47)], #[23]⟩), 160, "page.go:205", #[⟨12, .data⟩, ⟨10, .chain⟩, ⟨10, .guard⟩], (some (10, false))⟩) rfl (by kernel_rfl) rfl (by kernel_rfl) (fun K hK => ?_)
        go_simp
        refine (HS7.out _ (by assumption)).mono ?_
        rintro e w5 ⟨rfl, f5⟩
        simp only []
        have F5 := Lib.hid ((show Fr C0 w2 _ by assumption).trans0 f5)
        refine hK.out _ _ ?kS76 (fun hSw2 => ?kR76)
        case kS76 => exact F5.out
        clear hK K
        try simp only [Act.put, List.setIfInBounds_toArray, List.set_cons_zero, List.set_cons_succ]
        refine wpAnyL_take 14 (oi := ⟨(some 49), (.convert 160 87 (.tmp 48)), 87, "page.go:205", #[⟨13, .data⟩, ⟨10, .guard⟩], (some (10, false))⟩) (v := ?v_77) rfl (by kernel_rfl) (fun _ _ _ h => h) hSw2 (yieldsIf_of rfl ?hy_77) ?hrest_77
        case hy_77 => (intro w_ hS_; (first | (go_simp; done) | (go_simp; with_reducible rfl)))
        try simp only [Act.put, List.setIfInBounds_toArray, List.set_cons_zero, List.set_cons_succ]
        refine wpAnyL_one 17 (o := ⟨(some 52), (.call ⟨(.value (.func 95)), #[(.tmp 51)], #[23]⟩), 87, "page.go:205", #[⟨16, .data⟩, ⟨13, .chain⟩, ⟨10, .guard⟩], (some (10, false))⟩) rfl (by kernel_rfl) rfl (by kernel_rfl) (fun K hK => ?_)
        go_simp
        refine (HS8.out _ (by assumption)).mono ?_
        rintro e w6 ⟨rfl, rfl⟩
        simp only []
        refine hK.out _ _ ?kS78 (fun hSw3 => ?kR78)
        case kS78 => assumption
        clear hK K
        try simp only [Act.put, List.setIfInBounds_toArray, List.set_cons_zero, List.set_cons_succ]
        refine wpAnyL_take 18 (oi := ⟨(some 53), (.binOp .neq 87 (.tmp 49) (.tmp 52) 87), 4, "page.go:205", #[⟨14, .data⟩, ⟨17, .data⟩, ⟨10, .guard⟩], (some (10, false))⟩) (v := ?v_79) rfl (by kernel_rfl) (fun _ _ _ h => h) hSw3 (yieldsIf_of rfl ?hy_79) ?hrest_79
        case hy_79 => (intro w_ hS_; (first | (go_simp; done) | (go_simp; with_reducible rfl)))
        try simp only [Act.put, List.setIfInBounds_toArray, List.set_cons_zero, List.set_cons_succ]
        refine wpAnyL_take 19 (oi := ⟨(some 54), (.pick (.tmp 45) (.const (.bool true)) (.tmp 53)), 4, "page.go:205", #[⟨10, .data⟩, ⟨18, .data⟩], none⟩) (v := ?v_80) rfl (by kernel_rfl) (fun _ _ _ h => h) hSw3 (yieldsIf_of rfl ?hy_80) ?hrest_80
        case hy_80 => (intro w_ hS_; (first | (go_simp; done) | (go_simp; with_reducible rfl)))
        try simp only [Act.put, List.setIfInBounds_toArray, List.set_cons_zero, List.set_cons_succ]
        refine wpAnyL_done (by kernel_rfl) ?_ _
        go_wp2
        all_goals
          go_ret2
          refine ⟨F2.out.trans0 F5.out, ?_⟩
          rw [hpo.out]
          rfl
end Go.Proofs.Ytcmicdcikechkaa
end
