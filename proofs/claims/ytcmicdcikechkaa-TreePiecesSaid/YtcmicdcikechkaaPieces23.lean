import Derived.Test.YtcmicdcikechkaaPieces22
import Derived.Test.YtcmicdcikechkaaPieces18
set_option linter.all false
section
namespace Go.Proofs.Ytcmicdcikechkaa
open Go.RowKit Go.H
set_option maxHeartbeats 2000000
set_option maxRecDepth 100000
def rootDirty : Root → Nat
  | none => 0
  | some (d, t) => dirtyN d t
theorem dirty_root {c : Nat → Nat} {rn : Nat} {w : World} {pg : Nat → Option Bs} {N : Nat} {X : Prop} {o : Root} {v : Value} (h : RootAt c rn w pg N X o v) (hb : rootDirty o ≤ 1000000) : Calls Try.prog 35 #[v] w fun e w' => e = .returned (.int .i64 (rootDirty o : Int)) ∧ w = w' := by
  cases o with
  | none => obtain rfl := h; exact dirty_nil
  | some p => exact dirty_calls h.1 h.2 hb
def TreeCells (st : Nat) (nr : Value) (ns nd : Int) (lr : Value) (ls ld : Int) (lm : Nat) (gv ov : Value) (km : Nat) : Array Value :=
  #[.pointer (some ⟨st, 0, none⟩), nr, .int .i64 ns, .int .i64 nd, lr, .int .i64 ls, .int .i64 ld, .map (some lm), gv, ov, .map (some km)]
theorem becomes_full {c : Nat → Nat} {r rn : Nat} {w : World} {tp st wp : Nat} {S : SSt} {D : DSt} {X : Prop} {o : Root} {rv : Value} {sz dp : Int} (h : Hd c r w tp st S D) (hr : RootAt c rn w (pgs D) D.blocks X o rv) (hb : rootDirty o ≤ 1000000) (hl : S.state.length ≤ S.pages) (hf : S.pages - S.state.length < rootDirty o) :
    Calls Try.prog 27 #[.pointer (some ⟨tp, 0, none⟩), .agg #[rv, .int .i64 sz, .int .i64 dp], .pointer (some ⟨wp, 0, none⟩)] w fun e w' => e = .returned (.int .i64 21) ∧ Fr C0 w w' := by
  have HD := Lib.hid (fun (w_ : World) (hf : Fr C0 w w_) => dirty_root (hr.fr0 hf) hb)
  have HL := Lib.hid (fun (w_ : World) (hf : Fr C0 w w_) => by
    obtain ⟨sm, d, m, ov, hs⟩ := (h.fr0 hf).store
    exact left_calls hs h.alive.small hl)
  have t0 := h.cell
  have hone : rv = .nilIface ∨ ∃ tx y, rv = .iface tx y := by
    cases o with
    | none => exact .inl hr
    | some p => exact .inr hr.1.iface
  have hf' : ((S.pages - S.state.length : Nat) : Int) < (rootDirty o : Int) := by omega
  generalize rootDirty o = R at *
  generalize S.pages - S.state.length = Lf at *
  clear h hr
  rcases hone with rfl | ⟨tx, y, rfl⟩
  · go_enter Try.func27, Try.ntmps27
    go_wp2_with fail
    have x0 : (w.alloc (.cells #[.nilIface, .int .i64 sz, .int .i64 dp] 65)).cell? ⟨w.heap.size, 0, none⟩ = some (.nilIface) := blk_cell (heap_alloc_new _ _) 0 rfl
    have t0' := ((Fr.refl C0 w).alloc (.cells #[.nilIface, .int .i64 sz, .int .i64 dp] 65)).cell0 t0
    have F0 := Lib.hid ((Fr.refl C0 w).alloc (.cells #[.nilIface, .int .i64 sz, .int .i64 dp] 65))
    refine wp_region_L (Fr C0 (w.alloc (.cells #[.nilIface, .int .i64 sz, .int .i64 dp] 65))) [] (by kernel_rfl) ?_
    have hSw0 : (Fr C0 (w.alloc (.cells #[.nilIface, .int .i64 sz, .int .i64 dp] 65))) _ := (Fr.refl C0 _).drew
    refine wpAnyL_take 0 (oi := ⟨(some 7), (.fieldAddr 65 (.tmp 4) 0), 0, "tree.go:305", #[], none⟩) (v := ?v_1) rfl (by kernel_rfl) (fun _ _ _ h => h) hSw0 (yieldsIf_of rfl ?hy_1) ?hrest_1
    case hy_1 => (intro w_ hS_; (first | (go_simp; done) | (go_simp; with_reducible rfl)))
    try simp only [Act.put, List.setIfInBounds_toArray, List.set_cons_zero, List.set_cons_succ]
    refine wpAnyL_take 1 (oi := ⟨(some 8), (.load 20 (.tmp 7)), 20, "tree.go:305", #[⟨0, .data⟩], none⟩) (v := ?v_2) rfl (by kernel_rfl) (fun _ _ _ h => h) hSw0 (yieldsIf_of rfl ?hy_2) ?hrest_2
    case hy_2 => (intro w_ hS_; have b0 := hS_.cell0 x0; have b1 := hS_.cell0 t0'; (first | (go_simp; done) | (go_simp; with_reducible rfl)))
    try simp only [Act.put, List.setIfInBounds_toArray, List.set_cons_zero, List.set_cons_succ]
    refine wpAnyL_take 3 (oi := ⟨(some 10), (.move (.tmp 0)), 25, "tree.go:305", #[], none⟩) (v := ?v_3) rfl (by kernel_rfl) (fun _ _ _ h => h) hSw0 (yieldsIf_of rfl ?hy_3) ?hrest_3
    case hy_3 => (intro w_ hS_; (first | (go_simp; done) | (go_simp; with_reducible rfl)))
    try simp only [Act.put, List.setIfInBounds_toArray, List.set_cons_zero, List.set_cons_succ]
    refine wpAnyL_take 4 (oi := ⟨(some 11), (.nilCheck (.tmp 10)), 0, "tree.go:305", #[⟨3, .data⟩], none⟩) (v := ?v_4) rfl (by kernel_rfl) (fun _ _ _ h => h) hSw0 (yieldsIf_of rfl ?hy_4) ?hrest_4
    case hy_4 => (intro w_ hS_; (first | (go_simp; done) | (go_simp; with_reducible rfl)))
    try simp only [Act.put, List.setIfInBounds_toArray, List.set_cons_zero, List.set_cons_succ]
    refine wpAnyL_take 5 (oi := ⟨(some 12), (.fieldAddr 69 (.tmp 11) 0), 0, "tree.go:305", #[⟨4, .data⟩], none⟩) (v := ?v_5) rfl (by kernel_rfl) (fun _ _ _ h => h) hSw0 (yieldsIf_of rfl ?hy_5) ?hrest_5
    case hy_5 => (intro w_ hS_; (first | (go_simp; done) | (go_simp; with_reducible rfl)))
    try simp only [Act.put, List.setIfInBounds_toArray, List.set_cons_zero, List.set_cons_succ]
    refine wpAnyL_take 6 (oi := ⟨(some 13), (.load 63 (.tmp 12)), 63, "tree.go:305", #[⟨5, .data⟩], none⟩) (v := ?v_6) rfl (by kernel_rfl) (fun _ _ _ h => h) hSw0 (yieldsIf_of rfl ?hy_6) ?hrest_6
    case hy_6 => (intro w_ hS_; have b0 := hS_.cell0 x0; have b1 := hS_.cell0 t0'; (first | (go_simp; done) | (go_simp; with_reducible rfl)))
    try simp only [Act.put, List.setIfInBounds_toArray, List.set_cons_zero, List.set_cons_succ]
    refine wpAnyL_take 7 (oi := ⟨(some 14), (.nilCheck (.tmp 13)), 0, "tree.go:305", #[⟨6, .data⟩], none⟩) (v := ?v_7) rfl (by kernel_rfl) (fun _ _ _ h => h) hSw0 (yieldsIf_of rfl ?hy_7) ?hrest_7
    case hy_7 => (intro w_ hS_; (first | (go_simp; done) | (go_simp; with_reducible rfl)))
    try simp only [Act.put, List.setIfInBounds_toArray, List.set_cons_zero, List.set_cons_succ]
    refine wpAnyL_take 8 (oi := ⟨(some 15), (.fieldAddr 91 (.tmp 14) 0), 0, "tree.go:305", #[⟨7, .data⟩], none⟩) (v := ?v_8) rfl (by kernel_rfl) (fun _ _ _ h => h) hSw0 (yieldsIf_of rfl ?hy_8) ?hrest_8
    case hy_8 => (intro w_ hS_; (first | (go_simp; done) | (go_simp; with_reducible rfl)))
    try simp only [Act.put, List.setIfInBounds_toArray, List.set_cons_zero, List.set_cons_succ]
    refine wpAnyL_one 2 (o := ⟨(some 9), (.call ⟨(.value (.func 35)), #[(.tmp 8)], #[20]⟩), 3, "tree.go:305", #[⟨1, .data⟩], none⟩) rfl (by kernel_rfl) rfl (by kernel_rfl) (fun K hK => ?_)
    go_simp
    refine (HD.out _ (F0.out.trans0 (by assumption))).mono ?_
    rintro e w5 ⟨rfl, rfl⟩
    simp only []
    refine hK.out _ _ ?kS9 (fun hSw1 => ?kR9)
    case kS9 => assumption
    clear hK K
    try simp only [Act.put, List.setIfInBounds_toArray, List.set_cons_zero, List.set_cons_succ]
    refine wpAnyL_one 9 (o := ⟨(some 16), (.call ⟨(.value (.func 34)), #[(.tmp 15)], #[86]⟩), 3, "tree.go:305", #[⟨8, .data⟩, ⟨2, .chain⟩], none⟩) rfl (by kernel_rfl) rfl (by kernel_rfl) (fun K hK => ?_)
    go_simp
    refine (HL.out _ (F0.out.trans0 (by assumption))).mono ?_
    rintro e w5 ⟨rfl, rfl⟩
    simp only []
    refine hK.out _ _ ?kS10 (fun hSw2 => ?kR10)
    case kS10 => exact Fr.drew (by assumption)
    clear hK K
    try simp only [Act.put, List.setIfInBounds_toArray, List.set_cons_zero, List.set_cons_succ]
    refine wpAnyL_take 10 (oi := ⟨(some 17), (.binOp .gtr 3 (.tmp 9) (.tmp 16) 3), 4, "tree.go:305", #[⟨2, .data⟩, ⟨9, .data⟩], none⟩) (v := ?v_11) rfl (by kernel_rfl) (fun _ _ _ h => h) hSw2 (yieldsIf_of rfl ?hy_11) ?hrest_11
    case hy_11 => (intro w_ hS_; (first | (go_simp; done) | (go_simp; with_reducible rfl)))
    try simp only [Act.put, List.setIfInBounds_toArray, List.set_cons_zero, List.set_cons_succ]
    refine wpAnyL_done (by kernel_rfl) ?_ _
    go_wp2
    go_ret
    exact ⟨rfl, by first | exact F0.out.drew.drew | exact F0.out.drew | exact F0.out⟩
  · go_enter Try.func27, Try.ntmps27
    go_wp2_with fail
    have x0 : (w.alloc (.cells #[.iface tx y, .int .i64 sz, .int .i64 dp] 65)).cell? ⟨w.heap.size, 0, none⟩ = some (.iface tx y) := blk_cell (heap_alloc_new _ _) 0 rfl
    have t0' := ((Fr.refl C0 w).alloc (.cells #[.iface tx y, .int .i64 sz, .int .i64 dp] 65)).cell0 t0
    have F0 := Lib.hid ((Fr.refl C0 w).alloc (.cells #[.iface tx y, .int .i64 sz, .int .i64 dp] 65))
    refine wp_region_L (Fr C0 (w.alloc (.cells #[.iface tx y, .int .i64 sz, .int .i64 dp] 65))) [] (by kernel_rfl) ?_
    have hSw0 : (Fr C0 (w.alloc (.cells #[.iface tx y, .int .i64 sz, .int .i64 dp] 65))) _ := (Fr.refl C0 _).drew
    refine wpAnyL_take 0 (oi := ⟨(some 7), (.fieldAddr 65 (.tmp 4) 0), 0, "tree.go:305", #[], none⟩) (v := ?v_12) rfl (by kernel_rfl) (fun _ _ _ h => h) hSw0 (yieldsIf_of rfl ?hy_12) ?hrest_12
    case hy_12 => (intro w_ hS_; (first | (go_simp; done) | (go_simp; with_reducible rfl)))
    try simp only [Act.put, List.setIfInBounds_toArray, List.set_cons_zero, List.set_cons_succ]
    refine wpAnyL_take 1 (oi := ⟨(some 8), (.load 20 (.tmp 7)), 20, "tree.go:305", #[⟨0, .data⟩], none⟩) (v := ?v_13) rfl (by kernel_rfl) (fun _ _ _ h => h) hSw0 (yieldsIf_of rfl ?hy_13) ?hrest_13
    case hy_13 => (intro w_ hS_; have b0 := hS_.cell0 x0; have b1 := hS_.cell0 t0'; (first | (go_simp; done) | (go_simp; with_reducible rfl)))
    try simp only [Act.put, List.setIfInBounds_toArray, List.set_cons_zero, List.set_cons_succ]
    refine wpAnyL_take 3 (oi := ⟨(some 10), (.move (.tmp 0)), 25, "tree.go:305", #[], none⟩) (v := ?v_14) rfl (by kernel_rfl) (fun _ _ _ h => h) hSw0 (yieldsIf_of rfl ?hy_14) ?hrest_14
    case hy_14 => (intro w_ hS_; (first | (go_simp; done) | (go_simp; with_reducible rfl)))
    try simp only [Act.put, List.setIfInBounds_toArray, List.set_cons_zero, List.set_cons_succ]
    refine wpAnyL_take 4 (oi := ⟨(some 11), (.nilCheck (.tmp 10)), 0, "tree.go:305", #[⟨3, .data⟩], none⟩) (v := ?v_15) rfl (by kernel_rfl) (fun _ _ _ h => h) hSw0 (yieldsIf_of rfl ?hy_15) ?hrest_15
    case hy_15 => (intro w_ hS_; (first | (go_simp; done) | (go_simp; with_reducible rfl)))
    try simp only [Act.put, List.setIfInBounds_toArray, List.set_cons_zero, List.set_cons_succ]
    refine wpAnyL_take 5 (oi := ⟨(some 12), (.fieldAddr 69 (.tmp 11) 0), 0, "tree.go:305", #[⟨4, .data⟩], none⟩) (v := ?v_16) rfl (by kernel_rfl) (fun _ _ _ h => h) hSw0 (yieldsIf_of rfl ?hy_16) ?hrest_16
    case hy_16 => (intro w_ hS_; (first | (go_simp; done) | (go_simp; with_reducible rfl)))
    try simp only [Act.put, List.setIfInBounds_toArray, List.set_cons_zero, List.set_cons_succ]
    refine wpAnyL_take 6 (oi := ⟨(some 13), (.load 63 (.tmp 12)), 63, "tree.go:305", #[⟨5, .data⟩], none⟩) (v := ?v_17) rfl (by kernel_rfl) (fun _ _ _ h => h) hSw0 (yieldsIf_of rfl ?hy_17) ?hrest_17
    case hy_17 => (intro w_ hS_; have b0 := hS_.cell0 x0; have b1 := hS_.cell0 t0'; (first | (go_simp; done) | (go_simp; with_reducible rfl)))
    try simp only [Act.put, List.setIfInBounds_toArray, List.set_cons_zero, List.set_cons_succ]
    refine wpAnyL_take 7 (oi := ⟨(some 14), (.nilCheck (.tmp 13)), 0, "tree.go:305", #[⟨6, .data⟩], none⟩) (v := ?v_18) rfl (by kernel_rfl) (fun _ _ _ h => h) hSw0 (yieldsIf_of rfl ?hy_18) ?hrest_18
    case hy_18 => (intro w_ hS_; (first | (go_simp; done) | (go_simp; with_reducible rfl)))
    try simp only [Act.put, List.setIfInBounds_toArray, List.set_cons_zero, List.set_cons_succ]
    refine wpAnyL_take 8 (oi := ⟨(some 15), (.fieldAddr 91 (.tmp 14) 0), 0, "tree.go:305", #[⟨7, .data⟩], none⟩) (v := ?v_19) rfl (by kernel_rfl) (fun _ _ _ h => h) hSw0 (yieldsIf_of rfl ?hy_19) ?hrest_19
    case hy_19 => (intro w_ hS_; (first | (go_simp; done) | (go_simp; with_reducible rfl)))
    try simp only [Act.put, List.setIfInBounds_toArray, List.set_cons_zero, List.set_cons_succ]
    refine wpAnyL_one 2 (o := ⟨(some 9), (.call ⟨(.value (.func 35)), #[(.tmp 8)], #[20]⟩), 3, "tree.go:305", #[⟨1, .data⟩], none⟩) rfl (by kernel_rfl) rfl (by kernel_rfl) (fun K hK => ?_)
    go_simp
    refine (HD.out _ (F0.out.trans0 (by assumption))).mono ?_
    rintro e w5 ⟨rfl, rfl⟩
    simp only []
    refine hK.out _ _ ?kS20 (fun hSw1 => ?kR20)
    case kS20 => assumption
    clear hK K
    try simp only [Act.put, List.setIfInBounds_toArray, List.set_cons_zero, List.set_cons_succ]
    refine wpAnyL_one 9 (o := ⟨(some 16), (.call ⟨(.value (.func 34)), #[(.tmp 15)], #[86]⟩), 3, "tree.go:305", #[⟨8, .data⟩, ⟨2, .chain⟩], none⟩) rfl (by kernel_rfl) rfl (by kernel_rfl) (fun K hK => ?_)
    go_simp
    refine (HL.out _ (F0.out.trans0 (by assumption))).mono ?_
    rintro e w5 ⟨rfl, rfl⟩
    simp only []
    refine hK.out _ _ ?kS21 (fun hSw2 => ?kR21)
    case kS21 => exact Fr.drew (by assumption)
    clear hK K
    try simp only [Act.put, List.setIfInBounds_toArray, List.set_cons_zero, List.set_cons_succ]
    refine wpAnyL_take 10 (oi := ⟨(some 17), (.binOp .gtr 3 (.tmp 9) (.tmp 16) 3), 4, "tree.go:305", #[⟨2, .data⟩, ⟨9, .data⟩], none⟩) (v := ?v_22) rfl (by kernel_rfl) (fun _ _ _ h => h) hSw2 (yieldsIf_of rfl ?hy_22) ?hrest_22
    case hy_22 => (intro w_ hS_; (first | (go_simp; done) | (go_simp; with_reducible rfl)))
    try simp only [Act.put, List.setIfInBounds_toArray, List.set_cons_zero, List.set_cons_succ]
    refine wpAnyL_done (by kernel_rfl) ?_ _
    go_wp2
    go_ret
    exact ⟨rfl, by first | exact F0.out.drew.drew | exact F0.out.drew | exact F0.out⟩
theorem becomes_ok {c : Nat → Nat} {r rn q : Nat} {w : World} {tp st wp tq lm km : Nat} {S : SSt} {D : DSt} {X : Prop} {o : Root} {rv nr lr gv ov : Value} {sz dp ns nd ls ld : Int} {gone gone2 : List Nat} (h : Hd c r w tp st S D) (hc : Cl w c) (hr : RootAt c rn w (pgs D) D.blocks X o rv) (hb : rootDirty o ≤ 1000000) (hl : S.state.length ≤ S.pages) (hf : rootDirty o ≤ S.pages - S.state.length) (ht : w.heap[tp]? = some (.cells (TreeCells st nr ns nd lr ls ld lm gv ov km) 69 (0, 0))) (hg : w.ownsRow 0 3 1 gv gone.length (gone.map natV)) (hgo : ∀ b, gv.ownBlock = some b → c b = r) (hr0 : r ≠ 0) (hqr : q ≠ r) (hw : WorkAt c q w wp tq gone2) (hlen : gone.length + gone2.length ≤ 1000000) :
    Calls Try.prog 27 #[.pointer (some ⟨tp, 0, none⟩), .agg #[rv, .int .i64 sz, .int .i64 dp], .pointer (some ⟨wp, 0, none⟩)] w fun e w' => e = .returned (.int .i64 0) ∧ Fr (fun b => b = tp ∨ gv.ownBlock = some b) w w' ∧ ∃ gv' c', Ag w.heap.size c c' ∧ Cl w' c' ∧ w'.heap[tp]? = some (.cells (TreeCells st rv sz dp lr ls ld lm gv' ov km) 69 (0, 0)) ∧ w'.ownsRow 0 3 1 gv' (gone ++ gone2).length ((gone ++ gone2).map natV) ∧ ∀ b, gv'.ownBlock = some b → c' b = r := by
  have HD := Lib.hid (fun (w_ : World) (hf : Fr C0 w w_) => dirty_root (hr.fr0 hf) hb)
  have HL := Lib.hid (fun (w_ : World) (hf : Fr C0 w w_) => by
    obtain ⟨sm, d, m, ov, hs⟩ := (h.fr0 hf).store
    exact left_calls hs h.alive.small hl)
  have HOWN := Lib.hid h.own
  have hone : rv = .nilIface ∨ ∃ tx y, rv = .iface tx y := by
    cases o with
    | none => exact .inl hr
    | some p => exact .inr hr.1.iface
  obtain ⟨wgv, hwb, hwo, hwq, hwg⟩ := hw.ex
  have hf' : ¬ ((S.pages - S.state.length : Nat) : Int) < (rootDirty o : Int) := by omega
  generalize rootDirty o = R at *
  generalize S.pages - S.state.length = Lf at *
  have htw : tp ≠ wp := by
    intro e
    rw [e, hwb] at ht
    simp [TreeCells] at ht
  have hgt : ∀ b, gv.ownBlock = some b → b ≠ tp := by
    intro b e h2
    obtain ⟨cur, h3⟩ := own_blk hg e
    rw [h2, ht] at h3
    simp [TreeCells] at h3
  have HT := Lib.hid ht
  have HG := Lib.hid hg
  have HGO := Lib.hid hgo
  have HWB := Lib.hid hwb
  have HWO := Lib.hid hwo
  have HC := Lib.hid hc
  have HGT := Lib.hid hgt
  have t0 : w.cell? ⟨tp, 0, none⟩ = some (.pointer (some ⟨st, 0, none⟩)) := blk_cell ht 0 rfl
  have t1 : w.cell? ⟨tp, 1, none⟩ = some nr := blk_cell ht 1 rfl
  have t2 : w.cell? ⟨tp, 2, none⟩ = some (.int .i64 ns) := blk_cell ht 2 rfl
  have t3 : w.cell? ⟨tp, 3, none⟩ = some (.int .i64 nd) := blk_cell ht 3 rfl
  have s1 := blk_free 1 ht
  have s2 := blk_free 2 ht
  have s3 := blk_free 3 ht
  obtain ⟨GA, gc, rfl, -⟩ := own_form hg
  obtain ⟨WA, wcp, rfl, -⟩ := own_form hwo
  have hnwp : ∀ b, (Value.slice GA gone.length gc).ownBlock = some b → b ≠ wp := fun b e h2 => by
    have h3 := hgo b e
    rw [h2, hwq] at h3
    exact hqr h3
  have HNW := Lib.hid hnwp
  clear h hr ht hg hgo hwb hwo hwg hc hw hgt hnwp
  rcases hone with rfl | ⟨tx, y, rfl⟩
  · go_enter Try.func27, Try.ntmps27
    go_wp2_with fail
    have hbx : (w.alloc (.cells #[.nilIface, .int .i64 sz, .int .i64 dp] 65)).heap[w.heap.size]? = some (.cells #[.nilIface, .int .i64 sz, .int .i64 dp] 65 (0, 0)) := heap_alloc_new _ _
    have x0 := blk_cell hbx 0 rfl
    have x1 := blk_cell hbx 1 rfl
    have x2 := blk_cell hbx 2 rfl
    have F0 := Lib.hid ((Fr.refl C0 w).alloc (.cells #[.nilIface, .int .i64 sz, .int .i64 dp] 65))
    have t0' := F0.out.cell0 t0
    have HT1 := F0.out.blk HT.out (fun h => h)
    have y1 : (w.alloc (.cells #[.nilIface, .int .i64 sz, .int .i64 dp] 65)).cell? ⟨tp, 1, none⟩ = some nr := blk_cell HT1 1 rfl
    have y2 : (w.alloc (.cells #[.nilIface, .int .i64 sz, .int .i64 dp] 65)).cell? ⟨tp, 2, none⟩ = some (.int .i64 ns) := blk_cell HT1 2 rfl
    have y3 : (w.alloc (.cells #[.nilIface, .int .i64 sz, .int .i64 dp] 65)).cell? ⟨tp, 3, none⟩ = some (.int .i64 nd) := blk_cell HT1 3 rfl
    have z1 := blk_free 1 HT1
    have z2 := blk_free 2 HT1
    have z3 := blk_free 3 HT1
    have HTT := Lib.hid HT1
    have htl : tp < w.heap.size := (Array.getElem?_eq_some_iff.1 HT.out).1
    have hte : ¬ tp = w.heap.size := by omega
    have hte2 : ¬ w.heap.size = tp := by omega
    have hwl : wp < w.heap.size := (Array.getElem?_eq_some_iff.1 HWB.out).1
    clear hbx HT1
    refine wp_region_L (Fr C0 (w.alloc (.cells #[.nilIface, .int .i64 sz, .int .i64 dp] 65))) [] (by kernel_rfl) ?_
    have hSw0 : (Fr C0 (w.alloc (.cells #[.nilIface, .int .i64 sz, .int .i64 dp] 65))) _ := (Fr.refl C0 _).drew
    refine wpAnyL_take 0 (oi := ⟨(some 7), (.fieldAddr 65 (.tmp 4) 0), 0, "tree.go:305", #[], none⟩) (v := ?v_23) rfl (by kernel_rfl) (fun _ _ _ h => h) hSw0 (yieldsIf_of rfl ?hy_23) ?hrest_23
    case hy_23 => (intro w_ hS_; (first | (go_simp; done) | (go_simp; with_reducible rfl)))
    try simp only [Act.put, List.setIfInBounds_toArray, List.set_cons_zero, List.set_cons_succ]
    refine wpAnyL_take 1 (oi := ⟨(some 8), (.load 20 (.tmp 7)), 20, "tree.go:305", #[⟨0, .data⟩], none⟩) (v := ?v_24) rfl (by kernel_rfl) (fun _ _ _ h => h) hSw0 (yieldsIf_of rfl ?hy_24) ?hrest_24
    case hy_24 => (intro w_ hS_; have b0 := hS_.cell0 x0; have b1 := hS_.cell0 t0'; (first | (go_simp; done) | (go_simp; with_reducible rfl)))
    try simp only [Act.put, List.setIfInBounds_toArray, List.set_cons_zero, List.set_cons_succ]
    refine wpAnyL_take 3 (oi := ⟨(some 10), (.move (.tmp 0)), 25, "tree.go:305", #[], none⟩) (v := ?v_25) rfl (by kernel_rfl) (fun _ _ _ h => h) hSw0 (yieldsIf_of rfl ?hy_25) ?hrest_25
    case hy_25 => (intro w_ hS_; (first | (go_simp; done) | (go_simp; with_reducible rfl)))
    try simp only [Act.put, List.setIfInBounds_toArray, List.set_cons_zero, List.set_cons_succ]
    refine wpAnyL_take 4 (oi := ⟨(some 11), (.nilCheck (.tmp 10)), 0, "tree.go:305", #[⟨3, .data⟩], none⟩) (v := ?v_26) rfl (by kernel_rfl) (fun _ _ _ h => h) hSw0 (yieldsIf_of rfl ?hy_26) ?hrest_26
    case hy_26 => (intro w_ hS_; (first | (go_simp; done) | (go_simp; with_reducible rfl)))
    try simp only [Act.put, List.setIfInBounds_toArray, List.set_cons_zero, List.set_cons_succ]
    refine wpAnyL_take 5 (oi := ⟨(some 12), (.fieldAddr 69 (.tmp 11) 0), 0, "tree.go:305", #[⟨4, .data⟩], none⟩) (v := ?v_27) rfl (by kernel_rfl) (fun _ _ _ h => h) hSw0 (yieldsIf_of rfl ?hy_27) ?hrest_27
    case hy_27 => (intro w_ hS_; (first | (go_simp; done) | (go_simp; with_reducible rfl)))
    try simp only [Act.put, List.setIfInBounds_toArray, List.set_cons_zero, List.set_cons_succ]
    refine wpAnyL_take 6 (oi := ⟨(some 13), (.load 63 (.tmp 12)), 63, "tree.go:305", #[⟨5, .data⟩], none⟩) (v := ?v_28) rfl (by kernel_rfl) (fun _ _ _ h => h) hSw0 (yieldsIf_of rfl ?hy_28) ?hrest_28
    case hy_28 => (intro w_ hS_; have b0 := hS_.cell0 x0; have b1 := hS_.cell0 t0'; (first | (go_simp; done) | (go_simp; with_reducible rfl)))
    try simp only [Act.put, List.setIfInBounds_toArray, List.set_cons_zero, List.set_cons_succ]
    refine wpAnyL_take 7 (oi := ⟨(some 14), (.nilCheck (.tmp 13)), 0, "tree.go:305", #[⟨6, .data⟩], none⟩) (v := ?v_29) rfl (by kernel_rfl) (fun _ _ _ h => h) hSw0 (yieldsIf_of rfl ?hy_29) ?hrest_29
    case hy_29 => (intro w_ hS_; (first | (go_simp; done) | (go_simp; with_reducible rfl)))
    try simp only [Act.put, List.setIfInBounds_toArray, List.set_cons_zero, List.set_cons_succ]
    refine wpAnyL_take 8 (oi := ⟨(some 15), (.fieldAddr 91 (.tmp 14) 0), 0, "tree.go:305", #[⟨7, .data⟩], none⟩) (v := ?v_30) rfl (by kernel_rfl) (fun _ _ _ h => h) hSw0 (yieldsIf_of rfl ?hy_30) ?hrest_30
    case hy_30 => (intro w_ hS_; (first | (go_simp; done) | (go_simp; with_reducible rfl)))
    try simp only [Act.put, List.setIfInBounds_toArray, List.set_cons_zero, List.set_cons_succ]
    refine wpAnyL_one 2 (o := ⟨(some 9), (.call ⟨(.value (.func 35)), #[(.tmp 8)], #[20]⟩), 3, "tree.go:305", #[⟨1, .data⟩], none⟩) rfl (by kernel_rfl) rfl (by kernel_rfl) (fun K hK => ?_)
    go_simp
    refine (HD.out _ (F0.out.trans0 (by assumption))).mono ?_
    rintro e w5 ⟨rfl, rfl⟩
    simp only []
    refine hK.out _ _ ?kS31 (fun hSw1 => ?kR31)
    case kS31 => assumption
    clear hK K
    try simp only [Act.put, List.setIfInBounds_toArray, List.set_cons_zero, List.set_cons_succ]
    refine wpAnyL_one 9 (o := ⟨(some 16), (.call ⟨(.value (.func 34)), #[(.tmp 15)], #[86]⟩), 3, "tree.go:305", #[⟨8, .data⟩, ⟨2, .chain⟩], none⟩) rfl (by kernel_rfl) rfl (by kernel_rfl) (fun K hK => ?_)
    go_simp
    refine (HL.out _ (F0.out.trans0 (by assumption))).mono ?_
    rintro e w5 ⟨rfl, rfl⟩
    simp only []
    refine hK.out _ _ ?kS32 (fun hSw2 => ?kR32)
    case kS32 => exact Fr.drew (by assumption)
    clear hK K
    try simp only [Act.put, List.setIfInBounds_toArray, List.set_cons_zero, List.set_cons_succ]
    refine wpAnyL_take 10 (oi := ⟨(some 17), (.binOp .gtr 3 (.tmp 9) (.tmp 16) 3), 4, "tree.go:305", #[⟨2, .data⟩, ⟨9, .data⟩], none⟩) (v := ?v_33) rfl (by kernel_rfl) (fun _ _ _ h => h) hSw2 (yieldsIf_of rfl ?hy_33) ?hrest_33
    case hy_33 => (intro w_ hS_; (first | (go_simp; done) | (go_simp; with_reducible rfl)))
    try simp only [Act.put, List.setIfInBounds_toArray, List.set_cons_zero, List.set_cons_succ]
    refine wpAnyL_done (by kernel_rfl) ?_ _
    have HTV : Hid (((((w.setCell ⟨tp, 1, none⟩ (.nilIface)).setCell ⟨tp, 2, none⟩ (.int .i64 sz)).setCell ⟨tp, 3, none⟩ (.int .i64 dp)).alloc (.cells #[.nilIface, .int .i64 sz, .int .i64 dp] 65)).heap[tp]? = some (.cells (TreeCells st (.nilIface) sz dp lr ls ld lm (.slice GA gone.length gc) ov km) 69 (0, 0))) := Lib.hid (((Fr.refl C0 _).alloc _).blk (blk_set (i := 3) (blk_set (i := 2) (blk_set (i := 1) HT.out (.nilIface)) (.int .i64 sz)) (.int .i64 dp)) (fun h => h))
    have FV := Lib.hid (((((Fr.refl (fun b => b = tp) w).setCell (p := ⟨tp, 1, none⟩) (.inr rfl) (.nilIface)).setCell (p := ⟨tp, 2, none⟩) (.inr rfl) (.int .i64 sz)).setCell (p := ⟨tp, 3, none⟩) (.inr rfl) (.int .i64 dp)).alloc (.cells #[.nilIface, .int .i64 sz, .int .i64 dp] 65))
    have HGV := Lib.hid (own_kept HG.out FV.out (fun b e h => HGT.out b e h))
    have HWV := Lib.hid (own_kept HWO.out FV.out (fun b e h => by
      obtain ⟨cur, h3⟩ := own_blk HWO.out e
      rw [h, HT.out] at h3
      simp [TreeCells] at h3))
    have k8 : ((((w.setCell ⟨tp, 1, none⟩ (.nilIface)).setCell ⟨tp, 2, none⟩ (.int .i64 sz)).setCell ⟨tp, 3, none⟩ (.int .i64 dp)).alloc (.cells #[.nilIface, .int .i64 sz, .int .i64 dp] 65)).cell? ⟨tp, 8, none⟩ = some (.slice GA gone.length gc) := blk_cell HTV.out 8 rfl
    have hwpV := FV.out.blk HWB.out (fun h => htw h.symm)
    have k1 : ((((w.setCell ⟨tp, 1, none⟩ (.nilIface)).setCell ⟨tp, 2, none⟩ (.int .i64 sz)).setCell ⟨tp, 3, none⟩ (.int .i64 dp)).alloc (.cells #[.nilIface, .int .i64 sz, .int .i64 dp] 65)).cell? ⟨wp, 1, none⟩ = some (.slice WA gone2.length wcp) := blk_cell hwpV 1 rfl
    have hn1 : ¬ (Value.slice GA gone.length gc).ownBlock = some tp := fun e => HGT.out _ e rfl
    have hn2 : ¬ (Value.slice GA gone.length gc).ownBlock = some wp := fun e => HNW.out _ e rfl
    have hsV := FV.out.size
    clear hwpV
    go_wp2_with fail
    refine wp_region_L (Fr (fun b => (Value.slice GA gone.length gc).ownBlock = some b) ((((w.setCell ⟨tp, 1, none⟩ (.nilIface)).setCell ⟨tp, 2, none⟩ (.int .i64 sz)).setCell ⟨tp, 3, none⟩ (.int .i64 dp)).alloc (.cells #[.nilIface, .int .i64 sz, .int .i64 dp] 65))) [12] (by kernel_rfl) ?_
    have hSw0 : (Fr (fun b => (Value.slice GA gone.length gc).ownBlock = some b) ((((w.setCell ⟨tp, 1, none⟩ (.nilIface)).setCell ⟨tp, 2, none⟩ (.int .i64 sz)).setCell ⟨tp, 3, none⟩ (.int .i64 dp)).alloc (.cells #[.nilIface, .int .i64 sz, .int .i64 dp] 65))) _ := (Fr.refl _ _).drew.drew.drew
    refine wpAnyL_take 0 (oi := ⟨(some 22), (.move (.tmp 0)), 25, "tree.go:309", #[], none⟩) (v := ?v_34) rfl (by kernel_rfl) (fun _ _ _ h => h) hSw0 (yieldsIf_of rfl ?hy_34) ?hrest_34
    case hy_34 => (intro w_ hS_; (first | (go_simp; done) | (go_simp; with_reducible rfl)))
    try simp only [Act.put, List.setIfInBounds_toArray, List.set_cons_zero, List.set_cons_succ]
    refine wpAnyL_take 1 (oi := ⟨(some 23), (.move (.tmp 0)), 25, "tree.go:309", #[], none⟩) (v := ?v_35) rfl (by kernel_rfl) (fun _ _ _ h => h) hSw0 (yieldsIf_of rfl ?hy_35) ?hrest_35
    case hy_35 => (intro w_ hS_; (first | (go_simp; done) | (go_simp; with_reducible rfl)))
    try simp only [Act.put, List.setIfInBounds_toArray, List.set_cons_zero, List.set_cons_succ]
    refine wpAnyL_take 2 (oi := ⟨(some 24), (.nilCheck (.tmp 23)), 0, "tree.go:309", #[⟨1, .data⟩], none⟩) (v := ?v_36) rfl (by kernel_rfl) (fun _ _ _ h => h) hSw0 (yieldsIf_of rfl ?hy_36) ?hrest_36
    case hy_36 => (intro w_ hS_; (first | (go_simp; done) | (go_simp; with_reducible rfl)))
    try simp only [Act.put, List.setIfInBounds_toArray, List.set_cons_zero, List.set_cons_succ]
    refine wpAnyL_take 3 (oi := ⟨(some 25), (.fieldAddr 69 (.tmp 24) 4), 0, "tree.go:309", #[⟨2, .data⟩], none⟩) (v := ?v_37) rfl (by kernel_rfl) (fun _ _ _ h => h) hSw0 (yieldsIf_of rfl ?hy_37) ?hrest_37
    case hy_37 => (intro w_ hS_; (first | (go_simp; done) | (go_simp; with_reducible rfl)))
    try simp only [Act.put, List.setIfInBounds_toArray, List.set_cons_zero, List.set_cons_succ]
    refine wpAnyL_take 4 (oi := ⟨(some 26), (.load 58 (.tmp 25)), 58, "tree.go:309", #[⟨3, .data⟩], none⟩) (v := ?v_38) rfl (by kernel_rfl) (fun _ _ _ h => h) hSw0 (yieldsIf_of rfl ?hy_38) ?hrest_38
    case hy_38 => (intro w_ hS_; have j8 := hS_.cell k8 hn1; have j1 := hS_.cell k1 hn2; (first | (go_simp; done) | (go_simp; with_reducible rfl)))
    try simp only [Act.put, List.setIfInBounds_toArray, List.set_cons_zero, List.set_cons_succ]
    refine wpAnyL_take 5 (oi := ⟨(some 27), (.move (.tmp 2)), 57, "tree.go:309", #[], none⟩) (v := ?v_39) rfl (by kernel_rfl) (fun _ _ _ h => h) hSw0 (yieldsIf_of rfl ?hy_39) ?hrest_39
    case hy_39 => (intro w_ hS_; (first | (go_simp; done) | (go_simp; with_reducible rfl)))
    try simp only [Act.put, List.setIfInBounds_toArray, List.set_cons_zero, List.set_cons_succ]
    refine wpAnyL_take 6 (oi := ⟨(some 28), (.nilCheck (.tmp 27)), 0, "tree.go:309", #[⟨5, .data⟩], none⟩) (v := ?v_40) rfl (by kernel_rfl) (fun _ _ _ h => h) hSw0 (yieldsIf_of rfl ?hy_40) ?hrest_40
    case hy_40 => (intro w_ hS_; (first | (go_simp; done) | (go_simp; with_reducible rfl)))
    try simp only [Act.put, List.setIfInBounds_toArray, List.set_cons_zero, List.set_cons_succ]
    refine wpAnyL_take 7 (oi := ⟨(some 29), (.fieldAddr 60 (.tmp 28) 1), 0, "tree.go:309", #[⟨6, .data⟩], none⟩) (v := ?v_41) rfl (by kernel_rfl) (fun _ _ _ h => h) hSw0 (yieldsIf_of rfl ?hy_41) ?hrest_41
    case hy_41 => (intro w_ hS_; (first | (go_simp; done) | (go_simp; with_reducible rfl)))
    try simp only [Act.put, List.setIfInBounds_toArray, List.set_cons_zero, List.set_cons_succ]
    refine wpAnyL_take 8 (oi := ⟨(some 30), (.load 58 (.tmp 29)), 58, "tree.go:309", #[⟨7, .data⟩], none⟩) (v := ?v_42) rfl (by kernel_rfl) (fun _ _ _ h => h) hSw0 (yieldsIf_of rfl ?hy_42) ?hrest_42
    case hy_42 => (intro w_ hS_; have j8 := hS_.cell k8 hn1; have j1 := hS_.cell k1 hn2; (first | (go_simp; done) | (go_simp; with_reducible rfl)))
    try simp only [Act.put, List.setIfInBounds_toArray, List.set_cons_zero, List.set_cons_succ]
    refine wpAnyL_one 9 (o := ⟨(some 31), (.call ⟨(.builtin .append), #[(.tmp 26), (.tmp 30)], #[58, 58]⟩), 58, "tree.go:309", #[⟨4, .data⟩, ⟨8, .data⟩], none⟩) rfl (by kernel_rfl) rfl (by kernel_rfl) (fun K hK => ?_)
    refine wp_app sl_int _ _ rfl (v := .slice GA gone.length gc) (xv := .slice WA gone2.length wcp) rfl rfl (own_kept HGV.out ((Fr.refl C0 _).drew.drew.drew) (fun _ _ h => h)) (Row.ofOwn (own_kept HWV.out ((Fr.refl C0 _).drew.drew.drew) (fun _ _ h => h)) (F := fun _ => True) (fun _ _ => trivial)) (fun u hu => by obtain ⟨z, _, rfl⟩ := List.mem_map.1 hu; rfl) (by unfold maxLen; omega) (by omega) (Nat.zero_le _) ?_
    intro v6 w6 o6 f6 k6 nil6
    obtain ⟨A6, c6, rfl, -⟩ := own_form o6
    have F6 := Lib.hid ((Fr.refl (fun b => (Value.slice GA gone.length gc).ownBlock = some b) ((((w.setCell ⟨tp, 1, none⟩ (.nilIface)).setCell ⟨tp, 2, none⟩ (.int .i64 sz)).setCell ⟨tp, 3, none⟩ (.int .i64 dp)).alloc (.cells #[.nilIface, .int .i64 sz, .int .i64 dp] 65))).drew.drew.drew.trans f6 (fun _ _ h => h))
    have O6 := Lib.hid o6
    have K6 : Hid (∀ b, (Value.slice A6 (gone.length + gone2.length) c6).ownBlock = some b → (Value.slice GA gone.length gc).ownBlock = some b ∨ w.heap.size ≤ b) := Lib.hid (fun b e => (k6 b e).imp (fun h => h) (fun h => Nat.le_trans hsV h))
    have ht6 := F6.out.blk HTV.out hn1
    have m8 : w6.cell? ⟨tp, 8, none⟩ = some (.slice GA gone.length gc) := blk_cell ht6 8 rfl
    have z8 := blk_free 8 ht6
    have HT6 := Lib.hid ht6
    clear o6 f6 k6 nil6 ht6
    refine hK.out _ _ ?kS43 (fun hSw1 => ?kR43)
    case kS43 => exact F6.out
    clear hK K
    try simp only [Act.put, List.setIfInBounds_toArray, List.set_cons_zero, List.set_cons_succ]
    refine wpAnyL_take 10 (oi := ⟨(some 32), (.nilCheck (.tmp 22)), 0, "tree.go:309", #[⟨0, .data⟩, ⟨0, .phase⟩, ⟨1, .phase⟩, ⟨2, .phase⟩, ⟨3, .phase⟩, ⟨4, .phase⟩, ⟨5, .phase⟩, ⟨6, .phase⟩, ⟨7, .phase⟩, ⟨8, .phase⟩, ⟨9, .phase⟩], none⟩) (v := ?v_44) rfl (by kernel_rfl) (fun _ _ _ h => h) hSw1 (yieldsIf_of rfl ?hy_44) ?hrest_44
    case hy_44 => (intro w_ hS_; (first | (go_simp; done) | (go_simp; with_reducible rfl)))
    try simp only [Act.put, List.setIfInBounds_toArray, List.set_cons_zero, List.set_cons_succ]
    refine wpAnyL_take 11 (oi := ⟨(some 33), (.fieldAddr 69 (.tmp 32) 4), 0, "tree.go:309", #[⟨10, .data⟩, ⟨0, .phase⟩, ⟨1, .phase⟩, ⟨2, .phase⟩, ⟨3, .phase⟩, ⟨4, .phase⟩, ⟨5, .phase⟩, ⟨6, .phase⟩, ⟨7, .phase⟩, ⟨8, .phase⟩, ⟨9, .phase⟩], none⟩) (v := ?v_45) rfl (by kernel_rfl) (fun _ _ _ h => h) hSw1 (yieldsIf_of rfl ?hy_45) ?hrest_45
    case hy_45 => (intro w_ hS_; (first | (go_simp; done) | (go_simp; with_reducible rfl)))
    try simp only [Act.put, List.setIfInBounds_toArray, List.set_cons_zero, List.set_cons_succ]
    refine wpAnyL_late 12 (o := ⟨none, (.store 58 (.tmp 33) (.tmp 31)), 0, "tree.go:309", #[⟨11, .data⟩, ⟨9, .data⟩, ⟨9, .chain⟩, ⟨0, .phase⟩, ⟨1, .phase⟩, ⟨2, .phase⟩, ⟨3, .phase⟩, ⟨4, .phase⟩, ⟨5, .phase⟩, ⟨6, .phase⟩, ⟨7, .phase⟩, ⟨8, .phase⟩, ⟨9, .phase⟩], none⟩) rfl (by kernel_rfl) rfl (by kernel_rfl) (fun K hK => ?_)
    go_simp
    refine hK.out _ _ ?_; clear hK K
    try simp only [Act.put, List.setIfInBounds_toArray, List.set_cons_zero, List.set_cons_succ]
    refine wpAnyL_done (by kernel_rfl) ?_ _
    go_wp2
    go_ret
    have hS := (Fr.refl (fun b => b = tp) w6).setCell (p := ⟨tp, 8, none⟩) (.inr rfl) (.slice A6 (gone.length + gone2.length) c6)
    have hag : Ag w.heap.size c (setc c (Value.slice A6 (gone.length + gone2.length) c6).ownBlock r) := setc_ag HGO.out K6.out
    have hgs := F6.out.size
    refine ⟨rfl, ((FV.out.mono (fun b _ h => .inl h)).trans F6.out (fun b _ h => .inr h)).trans hS (fun b _ h => .inl h), .slice A6 (gone.length + gone2.length) c6, _, hag, fun b hb => ?_, blk_set (i := 8) HT6.out _, ?_, fun b e => by simp [setc, e]⟩
    · have h2 := hS.size
      unfold setc
      split
      · rename_i e; have := (O6.out.lt b e).2; omega
      · exact HC.out b (by omega)
    · have := own_kept O6.out hS (fun b e h => (K6.out b e).elim (fun h2 => HGT.out b h2 h) (fun h2 => by omega))
      simpa using this
  · go_enter Try.func27, Try.ntmps27
    go_wp2_with fail
    have hbx : (w.alloc (.cells #[.iface tx y, .int .i64 sz, .int .i64 dp] 65)).heap[w.heap.size]? = some (.cells #[.iface tx y, .int .i64 sz, .int .i64 dp] 65 (0, 0)) := heap_alloc_new _ _
    have x0 := blk_cell hbx 0 rfl
    have x1 := blk_cell hbx 1 rfl
    have x2 := blk_cell hbx 2 rfl
    have F0 := Lib.hid ((Fr.refl C0 w).alloc (.cells #[.iface tx y, .int .i64 sz, .int .i64 dp] 65))
    have t0' := F0.out.cell0 t0
    have HT1 := F0.out.blk HT.out (fun h => h)
    have y1 : (w.alloc (.cells #[.iface tx y, .int .i64 sz, .int .i64 dp] 65)).cell? ⟨tp, 1, none⟩ = some nr := blk_cell HT1 1 rfl
    have y2 : (w.alloc (.cells #[.iface tx y, .int .i64 sz, .int .i64 dp] 65)).cell? ⟨tp, 2, none⟩ = some (.int .i64 ns) := blk_cell HT1 2 rfl
    have y3 : (w.alloc (.cells #[.iface tx y, .int .i64 sz, .int .i64 dp] 65)).cell? ⟨tp, 3, none⟩ = some (.int .i64 nd) := blk_cell HT1 3 rfl
    have z1 := blk_free 1 HT1
    have z2 := blk_free 2 HT1
    have z3 := blk_free 3 HT1
    have HTT := Lib.hid HT1
    have htl : tp < w.heap.size := (Array.getElem?_eq_some_iff.1 HT.out).1
    have hte : ¬ tp = w.heap.size := by omega
    have hte2 : ¬ w.heap.size = tp := by omega
    have hwl : wp < w.heap.size := (Array.getElem?_eq_some_iff.1 HWB.out).1
    clear hbx HT1
    refine wp_region_L (Fr C0 (w.alloc (.cells #[.iface tx y, .int .i64 sz, .int .i64 dp] 65))) [] (by kernel_rfl) ?_
    have hSw0 : (Fr C0 (w.alloc (.cells #[.iface tx y, .int .i64 sz, .int .i64 dp] 65))) _ := (Fr.refl C0 _).drew
    refine wpAnyL_take 0 (oi := ⟨(some 7), (.fieldAddr 65 (.tmp 4) 0), 0, "tree.go:305", #[], none⟩) (v := ?v_46) rfl (by kernel_rfl) (fun _ _ _ h => h) hSw0 (yieldsIf_of rfl ?hy_46) ?hrest_46
    case hy_46 => (intro w_ hS_; (first | (go_simp; done) | (go_simp; with_reducible rfl)))
    try simp only [Act.put, List.setIfInBounds_toArray, List.set_cons_zero, List.set_cons_succ]
    refine wpAnyL_take 1 (oi := ⟨(some 8), (.load 20 (.tmp 7)), 20, "tree.go:305", #[⟨0, .data⟩], none⟩) (v := ?v_47) rfl (by kernel_rfl) (fun _ _ _ h => h) hSw0 (yieldsIf_of rfl ?hy_47) ?hrest_47
    case hy_47 => (intro w_ hS_; have b0 := hS_.cell0 x0; have b1 := hS_.cell0 t0'; (first | (go_simp; done) | (go_simp; with_reducible rfl)))
    try simp only [Act.put, List.setIfInBounds_toArray, List.set_cons_zero, List.set_cons_succ]
    refine wpAnyL_take 3 (oi := ⟨(some 10), (.move (.tmp 0)), 25, "tree.go:305", #[], none⟩) (v := ?v_48) rfl (by kernel_rfl) (fun _ _ _ h => h) hSw0 (yieldsIf_of rfl ?hy_48) ?hrest_48
    case hy_48 => (intro w_ hS_; (first | (go_simp; done) | (go_simp; with_reducible rfl)))
    try simp only [Act.put, List.setIfInBounds_toArray, List.set_cons_zero, List.set_cons_succ]
    refine wpAnyL_take 4 (oi := ⟨(some 11), (.nilCheck (.tmp 10)), 0, "tree.go:305", #[⟨3, .data⟩], none⟩) (v := ?v_49) rfl (by kernel_rfl) (fun _ _ _ h => h) hSw0 (yieldsIf_of rfl ?hy_49) ?hrest_49
    case hy_49 => (intro w_ hS_; (first | (go_simp; done) | (go_simp; with_reducible rfl)))
    try simp only [Act.put, List.setIfInBounds_toArray, List.set_cons_zero, List.set_cons_succ]
    refine wpAnyL_take 5 (oi := ⟨(some 12), (.fieldAddr 69 (.tmp 11) 0), 0, "tree.go:305", #[⟨4, .data⟩], none⟩) (v := ?v_50) rfl (by kernel_rfl) (fun _ _ _ h => h) hSw0 (yieldsIf_of rfl ?hy_50) ?hrest_50
    case hy_50 => (intro w_ hS_; (first | (go_simp; done) | (go_simp; with_reducible rfl)))
    try simp only [Act.put, List.setIfInBounds_toArray, List.set_cons_zero, List.set_cons_succ]
    refine wpAnyL_take 6 (oi := ⟨(some 13), (.load 63 (.tmp 12)), 63, "tree.go:305", #[⟨5, .data⟩], none⟩) (v := ?v_51) rfl (by kernel_rfl) (fun _ _ _ h => h) hSw0 (yieldsIf_of rfl ?hy_51) ?hrest_51
    case hy_51 => (intro w_ hS_; have b0 := hS_.cell0 x0; have b1 := hS_.cell0 t0'; (first | (go_simp; done) | (go_simp; with_reducible rfl)))
    try simp only [Act.put, List.setIfInBounds_toArray, List.set_cons_zero, List.set_cons_succ]
    refine wpAnyL_take 7 (oi := ⟨(some 14), (.nilCheck (.tmp 13)), 0, "tree.go:305", #[⟨6, .data⟩], none⟩) (v := ?v_52) rfl (by kernel_rfl) (fun _ _ _ h => h) hSw0 (yieldsIf_of rfl ?hy_52) ?hrest_52
    case hy_52 => (intro w_ hS_; (first | (go_simp; done) | (go_simp; with_reducible rfl)))
    try simp only [Act.put, List.setIfInBounds_toArray, List.set_cons_zero, List.set_cons_succ]
    refine wpAnyL_take 8 (oi := ⟨(some 15), (.fieldAddr 91 (.tmp 14) 0), 0, "tree.go:305", #[⟨7, .data⟩], none⟩) (v := ?v_53) rfl (by kernel_rfl) (fun _ _ _ h => h) hSw0 (yieldsIf_of rfl ?hy_53) ?hrest_53
    case hy_53 => (intro w_ hS_; (first | (go_simp; done) | (go_simp; with_reducible rfl)))
    try simp only [Act.put, List.setIfInBounds_toArray, List.set_cons_zero, List.set_cons_succ]
    refine wpAnyL_one 2 (o := ⟨(some 9), (.call ⟨(.value (.func 35)), #[(.tmp 8)], #[20]⟩), 3, "tree.go:305", #[⟨1, .data⟩], none⟩) rfl (by kernel_rfl) rfl (by kernel_rfl) (fun K hK => ?_)
    go_simp
    refine (HD.out _ (F0.out.trans0 (by assumption))).mono ?_
    rintro e w5 ⟨rfl, rfl⟩
    simp only []
    refine hK.out _ _ ?kS54 (fun hSw1 => ?kR54)
    case kS54 => assumption
    clear hK K
    try simp only [Act.put, List.setIfInBounds_toArray, List.set_cons_zero, List.set_cons_succ]
    refine wpAnyL_one 9 (o := ⟨(some 16), (.call ⟨(.value (.func 34)), #[(.tmp 15)], #[86]⟩), 3, "tree.go:305", #[⟨8, .data⟩, ⟨2, .chain⟩], none⟩) rfl (by kernel_rfl) rfl (by kernel_rfl) (fun K hK => ?_)
    go_simp
    refine (HL.out _ (F0.out.trans0 (by assumption))).mono ?_
    rintro e w5 ⟨rfl, rfl⟩
    simp only []
    refine hK.out _ _ ?kS55 (fun hSw2 => ?kR55)
    case kS55 => exact Fr.drew (by assumption)
    clear hK K
    try simp only [Act.put, List.setIfInBounds_toArray, List.set_cons_zero, List.set_cons_succ]
    refine wpAnyL_take 10 (oi := ⟨(some 17), (.binOp .gtr 3 (.tmp 9) (.tmp 16) 3), 4, "tree.go:305", #[⟨2, .data⟩, ⟨9, .data⟩], none⟩) (v := ?v_56) rfl (by kernel_rfl) (fun _ _ _ h => h) hSw2 (yieldsIf_of rfl ?hy_56) ?hrest_56
    case hy_56 => (intro w_ hS_; (first | (go_simp; done) | (go_simp; with_reducible rfl)))
    try simp only [Act.put, List.setIfInBounds_toArray, List.set_cons_zero, List.set_cons_succ]
    refine wpAnyL_done (by kernel_rfl) ?_ _
    have HTV : Hid (((((w.setCell ⟨tp, 1, none⟩ (.iface tx y)).setCell ⟨tp, 2, none⟩ (.int .i64 sz)).setCell ⟨tp, 3, none⟩ (.int .i64 dp)).alloc (.cells #[.iface tx y, .int .i64 sz, .int .i64 dp] 65)).heap[tp]? = some (.cells (TreeCells st (.iface tx y) sz dp lr ls ld lm (.slice GA gone.length gc) ov km) 69 (0, 0))) := Lib.hid (((Fr.refl C0 _).alloc _).blk (blk_set (i := 3) (blk_set (i := 2) (blk_set (i := 1) HT.out (.iface tx y)) (.int .i64 sz)) (.int .i64 dp)) (fun h => h))
    have FV := Lib.hid (((((Fr.refl (fun b => b = tp) w).setCell (p := ⟨tp, 1, none⟩) (.inr rfl) (.iface tx y)).setCell (p := ⟨tp, 2, none⟩) (.inr rfl) (.int .i64 sz)).setCell (p := ⟨tp, 3, none⟩) (.inr rfl) (.int .i64 dp)).alloc (.cells #[.iface tx y, .int .i64 sz, .int .i64 dp] 65))
    have HGV := Lib.hid (own_kept HG.out FV.out (fun b e h => HGT.out b e h))
    have HWV := Lib.hid (own_kept HWO.out FV.out (fun b e h => by
      obtain ⟨cur, h3⟩ := own_blk HWO.out e
      rw [h, HT.out] at h3
      simp [TreeCells] at h3))
    have k8 : ((((w.setCell ⟨tp, 1, none⟩ (.iface tx y)).setCell ⟨tp, 2, none⟩ (.int .i64 sz)).setCell ⟨tp, 3, none⟩ (.int .i64 dp)).alloc (.cells #[.iface tx y, .int .i64 sz, .int .i64 dp] 65)).cell? ⟨tp, 8, none⟩ = some (.slice GA gone.length gc) := blk_cell HTV.out 8 rfl
    have hwpV := FV.out.blk HWB.out (fun h => htw h.symm)
    have k1 : ((((w.setCell ⟨tp, 1, none⟩ (.iface tx y)).setCell ⟨tp, 2, none⟩ (.int .i64 sz)).setCell ⟨tp, 3, none⟩ (.int .i64 dp)).alloc (.cells #[.iface tx y, .int .i64 sz, .int .i64 dp] 65)).cell? ⟨wp, 1, none⟩ = some (.slice WA gone2.length wcp) := blk_cell hwpV 1 rfl
    have hn1 : ¬ (Value.slice GA gone.length gc).ownBlock = some tp := fun e => HGT.out _ e rfl
    have hn2 : ¬ (Value.slice GA gone.length gc).ownBlock = some wp := fun e => HNW.out _ e rfl
    have hsV := FV.out.size
    clear hwpV
    go_wp2_with fail
    refine wp_region_L (Fr (fun b => (Value.slice GA gone.length gc).ownBlock = some b) ((((w.setCell ⟨tp, 1, none⟩ (.iface tx y)).setCell ⟨tp, 2, none⟩ (.int .i64 sz)).setCell ⟨tp, 3, none⟩ (.int .i64 dp)).alloc (.cells #[.iface tx y, .int .i64 sz, .int .i64 dp] 65))) [12] (by kernel_rfl) ?_
    have hSw0 : (Fr (fun b => (Value.slice GA gone.length gc).ownBlock = some b) ((((w.setCell ⟨tp, 1, none⟩ (.iface tx y)).setCell ⟨tp, 2, none⟩ (.int .i64 sz)).setCell ⟨tp, 3, none⟩ (.int .i64 dp)).alloc (.cells #[.iface tx y, .int .i64 sz, .int .i64 dp] 65))) _ := (Fr.refl _ _).drew.drew.drew
    refine wpAnyL_take 0 (oi := ⟨(some 22), (.move (.tmp 0)), 25, "tree.go:309", #[], none⟩) (v := ?v_57) rfl (by kernel_rfl) (fun _ _ _ h => h) hSw0 (yieldsIf_of rfl ?hy_57) ?hrest_57
    case hy_57 => (intro w_ hS_; (first | (go_simp; done) | (go_simp; with_reducible rfl)))
    try simp only [Act.put, List.setIfInBounds_toArray, List.set_cons_zero, List.set_cons_succ]
    refine wpAnyL_take 1 (oi := ⟨(some 23), (.move (.tmp 0)), 25, "tree.go:309", #[], none⟩) (v := ?v_58) rfl (by kernel_rfl) (fun _ _ _ h => h) hSw0 (yieldsIf_of rfl ?hy_58) ?hrest_58
    case hy_58 => (intro w_ hS_; (first | (go_simp; done) | (go_simp; with_reducible rfl)))
    try simp only [Act.put, List.setIfInBounds_toArray, List.set_cons_zero, List.set_cons_succ]
    refine wpAnyL_take 2 (oi := ⟨(some 24), (.nilCheck (.tmp 23)), 0, "tree.go:309", #[⟨1, .data⟩], none⟩) (v := ?v_59) rfl (by kernel_rfl) (fun _ _ _ h => h) hSw0 (yieldsIf_of rfl ?hy_59) ?hrest_59
    case hy_59 => (intro w_ hS_; (first | (go_simp; done) | (go_simp; with_reducible rfl)))
    try simp only [Act.put, List.setIfInBounds_toArray, List.set_cons_zero, List.set_cons_succ]
    refine wpAnyL_take 3 (oi := ⟨(some 25), (.fieldAddr 69 (.tmp 24) 4), 0, "tree.go:309", #[⟨2, .data⟩], none⟩) (v := ?v_60) rfl (by kernel_rfl) (fun _ _ _ h => h) hSw0 (yieldsIf_of rfl ?hy_60) ?hrest_60
    case hy_60 => (intro w_ hS_; (first | (go_simp; done) | (go_simp; with_reducible rfl)))
    try simp only [Act.put, List.setIfInBounds_toArray, List.set_cons_zero, List.set_cons_succ]
    refine wpAnyL_take 4 (oi := ⟨(some 26), (.load 58 (.tmp 25)), 58, "tree.go:309", #[⟨3, .data⟩], none⟩) (v := ?v_61) rfl (by kernel_rfl) (fun _ _ _ h => h) hSw0 (yieldsIf_of rfl ?hy_61) ?hrest_61
    case hy_61 => (intro w_ hS_; have j8 := hS_.cell k8 hn1; have j1 := hS_.cell k1 hn2; (first | (go_simp; done) | (go_simp; with_reducible rfl)))
    try simp only [Act.put, List.setIfInBounds_toArray, List.set_cons_zero, List.set_cons_succ]
    refine wpAnyL_take 5 (oi := ⟨(some 27), (.move (.tmp 2)), 57, "tree.go:309", #[], none⟩) (v := ?v_62) rfl (by kernel_rfl) (fun _ _ _ h => h) hSw0 (yieldsIf_of rfl ?hy_62) ?hrest_62
    case hy_62 => (intro w_ hS_; (first | (go_simp; done) | (go_simp; with_reducible rfl)))
    try simp only [Act.put, List.setIfInBounds_toArray, List.set_cons_zero, List.set_cons_succ]
    refine wpAnyL_take 6 (oi := ⟨(some 28), (.nilCheck (.tmp 27)), 0, "tree.go:309", #[⟨5, .data⟩], none⟩) (v := ?v_63) rfl (by kernel_rfl) (fun _ _ _ h => h) hSw0 (yieldsIf_of rfl ?hy_63) ?hrest_63
    case hy_63 => (intro w_ hS_; (first | (go_simp; done) | (go_simp; with_reducible rfl)))
    try simp only [Act.put, List.setIfInBounds_toArray, List.set_cons_zero, List.set_cons_succ]
    refine wpAnyL_take 7 (oi := ⟨(some 29), (.fieldAddr 60 (.tmp 28) 1), 0, "tree.go:309", #[⟨6, .data⟩], none⟩) (v := ?v_64) rfl (by kernel_rfl) (fun _ _ _ h => h) hSw0 (yieldsIf_of rfl ?hy_64) ?hrest_64
    case hy_64 => (intro w_ hS_; (first | (go_simp; done) | (go_simp; with_reducible rfl)))
    try simp only [Act.put, List.setIfInBounds_toArray, List.set_cons_zero, List.set_cons_succ]
    refine wpAnyL_take 8 (oi := ⟨(some 30), (.load 58 (.tmp 29)), 58, "tree.go:309", #[⟨7, .data⟩], none⟩) (v := ?v_65) rfl (by kernel_rfl) (fun _ _ _ h => h) hSw0 (yieldsIf_of rfl ?hy_65) ?hrest_65
    case hy_65 => (intro w_ hS_; have j8 := hS_.cell k8 hn1; have j1 := hS_.cell k1 hn2; (first | (go_simp; done) | (go_simp; with_reducible rfl)))
    try simp only [Act.put, List.setIfInBounds_toArray, List.set_cons_zero, List.set_cons_succ]
    refine wpAnyL_one 9 (o := ⟨(some 31), (.call ⟨(.builtin .append), #[(.tmp 26), (.tmp 30)], #[58, 58]⟩), 58, "tree.go:309", #[⟨4, .data⟩, ⟨8, .data⟩], none⟩) rfl (by kernel_rfl) rfl (by kernel_rfl) (fun K hK => ?_)
    refine wp_app sl_int _ _ rfl (v := .slice GA gone.length gc) (xv := .slice WA gone2.length wcp) rfl rfl (own_kept HGV.out ((Fr.refl C0 _).drew.drew.drew) (fun _ _ h => h)) (Row.ofOwn (own_kept HWV.out ((Fr.refl C0 _).drew.drew.drew) (fun _ _ h => h)) (F := fun _ => True) (fun _ _ => trivial)) (fun u hu => by obtain ⟨z, _, rfl⟩ := List.mem_map.1 hu; rfl) (by unfold maxLen; omega) (by omega) (Nat.zero_le _) ?_
    intro v6 w6 o6 f6 k6 nil6
    obtain ⟨A6, c6, rfl, -⟩ := own_form o6
    have F6 := Lib.hid ((Fr.refl (fun b => (Value.slice GA gone.length gc).ownBlock = some b) ((((w.setCell ⟨tp, 1, none⟩ (.iface tx y)).setCell ⟨tp, 2, none⟩ (.int .i64 sz)).setCell ⟨tp, 3, none⟩ (.int .i64 dp)).alloc (.cells #[.iface tx y, .int .i64 sz, .int .i64 dp] 65))).drew.drew.drew.trans f6 (fun _ _ h => h))
    have O6 := Lib.hid o6
    have K6 : Hid (∀ b, (Value.slice A6 (gone.length + gone2.length) c6).ownBlock = some b → (Value.slice GA gone.length gc).ownBlock = some b ∨ w.heap.size ≤ b) := Lib.hid (fun b e => (k6 b e).imp (fun h => h) (fun h => Nat.le_trans hsV h))
    have ht6 := F6.out.blk HTV.out hn1
    have m8 : w6.cell? ⟨tp, 8, none⟩ = some (.slice GA gone.length gc) := blk_cell ht6 8 rfl
    have z8 := blk_free 8 ht6
    have HT6 := Lib.hid ht6
    clear o6 f6 k6 nil6 ht6
    refine hK.out _ _ ?kS66 (fun hSw1 => ?kR66)
    case kS66 => exact F6.out
    clear hK K
    try simp only [Act.put, List.setIfInBounds_toArray, List.set_cons_zero, List.set_cons_succ]
    refine wpAnyL_take 10 (oi := ⟨(some 32), (.nilCheck (.tmp 22)), 0, "tree.go:309", #[⟨0, .data⟩, ⟨0, .phase⟩, ⟨1, .phase⟩, ⟨2, .phase⟩, ⟨3, .phase⟩, ⟨4, .phase⟩, ⟨5, .phase⟩, ⟨6, .phase⟩, ⟨7, .phase⟩, ⟨8, .phase⟩, ⟨9, .phase⟩], none⟩) (v := ?v_67) rfl (by kernel_rfl) (fun _ _ _ h => h) hSw1 (yieldsIf_of rfl ?hy_67) ?hrest_67
    case hy_67 => (intro w_ hS_; (first | (go_simp; done) | (go_simp; with_reducible rfl)))
    try simp only [Act.put, List.setIfInBounds_toArray, List.set_cons_zero, List.set_cons_succ]
    refine wpAnyL_take 11 (oi := ⟨(some 33), (.fieldAddr 69 (.tmp 32) 4), 0, "tree.go:309", #[⟨10, .data⟩, ⟨0, .phase⟩, ⟨1, .phase⟩, ⟨2, .phase⟩, ⟨3, .phase⟩, ⟨4, .phase⟩, ⟨5, .phase⟩, ⟨6, .phase⟩, ⟨7, .phase⟩, ⟨8, .phase⟩, ⟨9, .phase⟩], none⟩) (v := ?v_68) rfl (by kernel_rfl) (fun _ _ _ h => h) hSw1 (yieldsIf_of rfl ?hy_68) ?hrest_68
    case hy_68 => (intro w_ hS_; (first | (go_simp; done) | (go_simp; with_reducible rfl)))
    try simp only [Act.put, List.setIfInBounds_toArray, List.set_cons_zero, List.set_cons_succ]
    refine wpAnyL_late 12 (o := ⟨none, (.store 58 (.tmp 33) (.tmp 31)), 0, "tree.go:309", #[⟨11, .data⟩, ⟨9, .data⟩, ⟨9, .chain⟩, ⟨0, .phase⟩, ⟨1, .phase⟩, ⟨2, .phase⟩, ⟨3, .phase⟩, ⟨4, .phase⟩, ⟨5, .phase⟩, ⟨6, .phase⟩, ⟨7, .phase⟩, ⟨8, .phase⟩, ⟨9, .phase⟩], none⟩) rfl (by kernel_rfl) rfl (by kernel_rfl) (fun K hK => ?_)
    go_simp
    refine hK.out _ _ ?_; clear hK K
    try simp only [Act.put, List.setIfInBounds_toArray, List.set_cons_zero, List.set_cons_succ]
    refine wpAnyL_done (by kernel_rfl) ?_ _
    go_wp2
    go_ret
    have hS := (Fr.refl (fun b => b = tp) w6).setCell (p := ⟨tp, 8, none⟩) (.inr rfl) (.slice A6 (gone.length + gone2.length) c6)
    have hag : Ag w.heap.size c (setc c (Value.slice A6 (gone.length + gone2.length) c6).ownBlock r) := setc_ag HGO.out K6.out
    have hgs := F6.out.size
    refine ⟨rfl, ((FV.out.mono (fun b _ h => .inl h)).trans F6.out (fun b _ h => .inr h)).trans hS (fun b _ h => .inl h), .slice A6 (gone.length + gone2.length) c6, _, hag, fun b hb => ?_, blk_set (i := 8) HT6.out _, ?_, fun b e => by simp [setc, e]⟩
    · have h2 := hS.size
      unfold setc
      split
      · rename_i e; have := (O6.out.lt b e).2; omega
      · exact HC.out b (by omega)
    · have := own_kept O6.out hS (fun b e h => (K6.out b e).elim (fun h2 => HGT.out b h2 h) (fun h2 => by omega))
      simpa using this
end Go.Proofs.Ytcmicdcikechkaa
end
