import Derived.Test.YtcmicdcikechkaaPieces11
set_option linter.all false
section
namespace Go.Proofs.Ytcmicdcikechkaa
open Go.RowKit Go.H
set_option maxHeartbeats 1000000
set_option maxRecDepth 100000
def openStep (acc : Int × Nat × Nat) (i : Nat) (h : (Nat × Nat) × Bool) : Int × Nat × Nat :=
  if h.2 = true ∧ (acc.1 < 0 ∨ acc.2.1 < h.1.1) then ((i : Int), h.1) else acc
def openAcc (f : Nat → (Nat × Nat) × Bool) : Nat → Int × Nat × Nat
  | 0 => (-1, 0, 0)
  | k + 1 => openStep (openAcc f k) k (f k)
def openF (f : Nat → (Nat × Nat) × Bool) : Option (Nat × Nat) :=
  if (openAcc f 2).1 < 0 then none else if (openAcc f 2).2.1 ≠ 0 ∧ (((openAcc f 2).2.1 % 2 : Nat) : Int) ≠ (openAcc f 2).1 then none else some (openAcc f 2).2
theorem openAcc_range (f : Nat → (Nat × Nat) × Bool) : ∀ k, -1 ≤ (openAcc f k).1 ∧ (openAcc f k).1 < k
  | 0 => by simp [openAcc]
  | k + 1 => by
    have ih := openAcc_range f k
    simp only [openAcc, openStep]
    split
    · simp; omega
    · omega
def headsOf (D : DSt) (k : Nat) : (Nat × Nat) × Bool := readHeadF (D.read k) D.blocks
def OpenRes (c : Nat → Nat) (r : Nat) (w w' : World) (D : DSt) (e : Ending) : Option (Nat × Nat) → Prop
  | some (num, root) => ∃ st, e = .returned (.tuple #[.pointer (some ⟨st, 0, none⟩), .int .i64 0]) ∧ ∃ c', Ag w.heap.size c c' ∧ Cl w' c' ∧ StoreOk c' r w' st ⟨D.blocks - 2, [], D.life, num, root⟩ D
  | none => e = .returned (.tuple #[.pointer none, .int .i64 22])
theorem popen_calls {c : Nat → Nat} {r : Nat} {w : World} {d m : Nat} {ov : Value} {D : DSt} (h : DiskA (Dt c) w d m ov D) (hod : c d = r) (hom : c m = r) (hoov : ∀ b, ov.ownBlock = some b → c b = r) (hr : r ≠ 0) (hc : Cl w c) (hdn : D.down = false) (hb1 : 3 ≤ D.blocks) (hb2 : D.blocks ≤ 4096) (hbl : ∀ k, (D.read k).length = 8192) :
    Calls Try.prog 44 #[.pointer (some ⟨d, 0, none⟩)] w fun e w' => Fr C0 w w' ∧ OpenRes c r w w' D e (openF (headsOf D)) := by
  have HB := Lib.hid (fun (w_ : World) (hf : Fr C0 w w_) => blocks_calls (h.fr0 hf))
  have HD := Lib.hid (down_calls h)
  rw [hdn] at HD
  have HL := Lib.hid (fun (w_ : World) (hf : Fr C0 w w_) => life_calls (h.fr0 hf))
  have HR := Lib.hid (fun (w_ : World) (hf : Fr C0 w w_) (k : Nat) (hk : k < 2) => read_calls (h.fr0 hf) hdn k (by omega))
  have H := Lib.hid h
  have e1 : ¬ ((D.blocks : Int) ≤ 2) := by omega
  have e2 : IntKind.i64.wrap ((D.blocks : Int) - 2) = ((D.blocks - 2 : Nat) : Int) := by rw [IntWalk.i64_in _ (by omega)]; omega
  have HC := Lib.hid hc
  have HO := Lib.hid hoov
  have HBL := Lib.hid hbl
  clear h hc hoov hbl
  go_enter Try.func44, Try.ntmps44
  go_wp2_with fail
  refine (HB.out _ (Fr.refl _ _)).mono ?_
  rintro e w1 ⟨rfl, rfl⟩
  go_wp2_with fail
  refine HD.out.mono ?_
  rintro e w1 ⟨rfl, rfl⟩
  go_wp2_with fail
  refine (HL.out _ (Fr.refl _ _)).mono ?_
  rintro e w1 ⟨rfl, rfl⟩
  go_wp2_with fail
  refine (HB.out _ (Fr.refl _ _)).mono ?_
  rintro e w1 ⟨rfl, rfl⟩
  go_wp2
  go_loopw [5, 6, 7, 8, 9, 10, 32] (fun av _ _ _ _ _ iv wr => ∃ k : Nat, k ≤ 2 ∧ av = .int .i64 (openAcc (headsOf D) k).1 ∧ iv = .int .i64 (k : Int) ∧ Hid (Fr C0 w wr) ∧ Hid (wr.heap[w.heap.size]? = some (.map #[] 0)) ∧ Hid (wr.heap[w.heap.size + 1]? = some (.cells #[.int .i64 ((D.blocks - 2 : Nat) : Int), .map (some w.heap.size), .pointer (some ⟨d, 0, none⟩), .int .i64 D.life, .int .u64 ((openAcc (headsOf D) k).2.1 : Int), .int .i64 ((openAcc (headsOf D) k).2.2 : Int)] 91 (0, 0)))) (fun _ _ _ _ _ _ iv _ => 2 - (intOf iv).toNat)
  case atStart =>
    refine ⟨0, by omega, rfl, rfl, Lib.hid (((Fr.refl C0 w).alloc _).alloc _), ?_, ?_⟩
    · exact Lib.hid (((Fr.refl C0 (w.alloc (.map #[] 0))).alloc _).blk (heap_alloc_new w _) (fun h => h))
    · have := heap_alloc_new (w.alloc (.map #[] 0)) (.cells #[.int .i64 ((D.blocks - 2 : Nat) : Int), .map (some w.heap.size), .pointer (some ⟨d, 0, none⟩), .int .i64 D.life, .int .u64 0, .int .i64 0] 91)
      refine Lib.hid ?_
      simpa [openAcc] using this
  case round =>
    obtain ⟨k, hk, rfl, rfl, HF, HM, HS⟩ := hrel
    by_cases hlt : k < 2
    · have HE : Hid (openAcc (headsOf D) (k + 1) = openStep (openAcc (headsOf D) k) k (headsOf D k)) := Lib.hid rfl
      have hrg := openAcc_range (headsOf D) k
      have HRH := Lib.hid (fun (w_ : World) (g : Nat) (hg : w_.heap[g]? = some (.cells ((D.read k).map bv).toArray 5 (0, 0))) => readHead_calls hg (HBL.out k) hb2)
      rw [show readHeadF (D.read k) D.blocks = headsOf D k from rfl] at HRH
      have HRK := Lib.hid (HR.out _ HF.out k hlt)
      generalize headsOf D k = hh at HE HRH
      obtain ⟨⟨hn, hrt⟩, hok⟩ := hh
      generalize openAcc (headsOf D) k = acc at HE HS hrg
      obtain ⟨at_, num, root⟩ := acc
      simp only at HE HS hrg HRH ⊢
      obtain ⟨hrg1, hrg2⟩ := hrg
      go_wp2_with fail
      refine HRK.out.mono ?_
      rintro e w1 ⟨rfl, g1, f1⟩
      have F1 := Lib.hid (HF.out.trans0 f1)
      have G1 := Lib.hid g1
      have FR1 := Lib.hid f1
      clear f1 g1 HRK
      go_wp2_with fail
      refine (HB.out _ F1.out).mono ?_
      rintro e w2 ⟨rfl, rfl⟩
      go_wp2_with fail
      refine (HRH.out _ _ G1.out).mono ?_
      rintro e w2 ⟨rfl, f2⟩
      have F2 := Lib.hid (F1.out.trans0 f2)
      have FR2 := Lib.hid (FR1.out.trans0 f2)
      have hs2 := HS.out
      clear f2 F1 HRH G1 FR1
      have HW := Lib.hid (FR2.out.alloc (.cells #[.int .u64 (hn : Int), .int .i64 (hrt : Int)] 89))
      have q0 : (w2.alloc (.cells #[.int .u64 (hn : Int), .int .i64 (hrt : Int)] 89)).cell? ⟨w2.heap.size, 0, none⟩ = some (.int .u64 (hn : Int)) := blk_cell (heap_alloc_new _ _) 0 rfl
      have q1 : (w2.alloc (.cells #[.int .u64 (hn : Int), .int .i64 (hrt : Int)] 89)).cell? ⟨w2.heap.size, 1, none⟩ = some (.int .i64 (hrt : Int)) := blk_cell (heap_alloc_new _ _) 1 rfl
      have hb4 := HW.out.blk hs2 (fun h => h)
      have s4 := blk_cell (HW.out.blk hs2 (fun h => h)) 4 rfl
      have s5' := blk_cell hb4 5 rfl
      have z4 := blk_free 4 hb4
      have z5 := blk_free 5 hb4
      have HB4 := Lib.hid hb4
      have HM4 := Lib.hid (HW.out.blk HM.out (fun h => h))
      have HFW := Lib.hid ((F2.out.alloc (.cells #[.int .u64 (hn : Int), .int .i64 (hrt : Int)] 89)))
      have hs9 := HF.out.size
      have hrel0 : openStep (at_, num, root) k ((hn, hrt), hok) = (at_, num, root) → ∃ k' : Nat, k' ≤ 2 ∧ True := fun _ => ⟨k, hk, trivial⟩
      clear hs2 hrel0 hb4
      go_wp2_with fail
      cases hok with
      | false =>
        have hno : ¬ ((false : Bool) = true ∧ (at_ < 0 ∨ num < hn)) := by simp
        refine wp_region_L (Fr C0 (w2.alloc (.cells #[.int .u64 (hn : Int), .int .i64 (hrt : Int)] 89))) [] (by kernel_rfl) ?_
        have hSw0 : (Fr C0 (w2.alloc (.cells #[.int .u64 (hn : Int), .int .i64 (hrt : Int)] 89))) _ := (Fr.refl C0 _).drew
        refine wpAnyL_take 0 (oi := ⟨(some 51), (.move (.tmp 10)), 4, "page.go:130", #[], none⟩) (v := ?v_1) rfl (by kernel_rfl) (fun _ _ _ h => h) hSw0 (yieldsIf_of rfl ?hy_1) ?hrest_1
        case hy_1 => (intro w_ hS_; (first | (go_simp; done) | (go_simp; with_reducible rfl)))
        try simp only [Act.put, List.setIfInBounds_toArray, List.set_cons_zero, List.set_cons_succ]
        refine wpAnyL_take 1 (oi := ⟨(some 52), (.move (.tmp 51)), 4, "page.go:130", #[⟨0, .data⟩], none⟩) (v := ?v_2) rfl (by kernel_rfl) (fun _ _ _ h => h) hSw0 (yieldsIf_of rfl ?hy_2) ?hrest_2
        case hy_2 => (intro w_ hS_; (first | (go_simp; done) | (go_simp; with_reducible rfl)))
        try simp only [Act.put, List.setIfInBounds_toArray, List.set_cons_zero, List.set_cons_succ]
        refine wpAnyL_take 2 (oi := ⟨(some 53), (.move (.tmp 5)), 3, "page.go:130", #[⟨1, .guard⟩], (some (1, true))⟩)  rfl (by kernel_rfl) (fun _ _ _ h => h) hSw0 (yieldsIf_skip rfl) ?hrest_3
        try simp only [Act.put, List.setIfInBounds_toArray, List.set_cons_zero, List.set_cons_succ]
        refine wpAnyL_take 3 (oi := ⟨(some 54), (.binOp .lss 3 (.tmp 53) (.const (.int .i64 0)) 3), 4, "page.go:130", #[⟨2, .data⟩, ⟨1, .guard⟩], (some (1, true))⟩)  rfl (by kernel_rfl) (fun _ _ _ h => h) hSw0 (yieldsIf_skip rfl) ?hrest_4
        try simp only [Act.put, List.setIfInBounds_toArray, List.set_cons_zero, List.set_cons_succ]
        refine wpAnyL_take 4 (oi := ⟨(some 55), (.move (.tmp 54)), 4, "page.go:130", #[⟨3, .data⟩, ⟨1, .chain⟩, ⟨1, .guard⟩], (some (1, true))⟩)  rfl (by kernel_rfl) (fun _ _ _ h => h) hSw0 (yieldsIf_skip rfl) ?hrest_5
        try simp only [Act.put, List.setIfInBounds_toArray, List.set_cons_zero, List.set_cons_succ]
        refine wpAnyL_take 5 (oi := ⟨(some 56), (.fieldAddr 89 (.tmp 9) 0), 0, "page.go:130", #[⟨4, .guard⟩], (some (4, false))⟩)  rfl (by kernel_rfl) (fun _ _ _ h => h) hSw0 (yieldsIf_skip rfl) ?hrest_6
        try simp only [Act.put, List.setIfInBounds_toArray, List.set_cons_zero, List.set_cons_succ]
        refine wpAnyL_take 6 (oi := ⟨(some 57), (.load 87 (.tmp 56)), 87, "page.go:130", #[⟨5, .data⟩, ⟨4, .guard⟩], (some (4, false))⟩)  rfl (by kernel_rfl) (fun _ _ _ h => h) hSw0 (yieldsIf_skip rfl) ?hrest_7
        try simp only [Act.put, List.setIfInBounds_toArray, List.set_cons_zero, List.set_cons_succ]
        refine wpAnyL_take 7 (oi := ⟨(some 58), (.move (.tmp 4)), 63, "page.go:130", #[⟨4, .guard⟩], (some (4, false))⟩)  rfl (by kernel_rfl) (fun _ _ _ h => h) hSw0 (yieldsIf_skip rfl) ?hrest_8
        try simp only [Act.put, List.setIfInBounds_toArray, List.set_cons_zero, List.set_cons_succ]
        refine wpAnyL_take 8 (oi := ⟨(some 59), (.nilCheck (.tmp 58)), 0, "page.go:130", #[⟨7, .data⟩, ⟨4, .guard⟩], (some (4, false))⟩)  rfl (by kernel_rfl) (fun _ _ _ h => h) hSw0 (yieldsIf_skip rfl) ?hrest_9
        try simp only [Act.put, List.setIfInBounds_toArray, List.set_cons_zero, List.set_cons_succ]
        refine wpAnyL_take 9 (oi := ⟨(some 60), (.fieldAddr 91 (.tmp 59) 3), 0, "page.go:130", #[⟨8, .data⟩, ⟨4, .guard⟩], (some (4, false))⟩)  rfl (by kernel_rfl) (fun _ _ _ h => h) hSw0 (yieldsIf_skip rfl) ?hrest_10
        try simp only [Act.put, List.setIfInBounds_toArray, List.set_cons_zero, List.set_cons_succ]
        refine wpAnyL_take 10 (oi := ⟨(some 61), (.fieldAddr 89 (.tmp 60) 0), 0, "page.go:130", #[⟨9, .data⟩, ⟨4, .guard⟩], (some (4, false))⟩)  rfl (by kernel_rfl) (fun _ _ _ h => h) hSw0 (yieldsIf_skip rfl) ?hrest_11
        try simp only [Act.put, List.setIfInBounds_toArray, List.set_cons_zero, List.set_cons_succ]
        refine wpAnyL_take 11 (oi := ⟨(some 62), (.load 87 (.tmp 61)), 87, "page.go:130", #[⟨10, .data⟩, ⟨4, .guard⟩], (some (4, false))⟩)  rfl (by kernel_rfl) (fun _ _ _ h => h) hSw0 (yieldsIf_skip rfl) ?hrest_12
        try simp only [Act.put, List.setIfInBounds_toArray, List.set_cons_zero, List.set_cons_succ]
        refine wpAnyL_take 12 (oi := ⟨(some 63), (.binOp .gtr 87 (.tmp 57) (.tmp 62) 87), 4, "page.go:130", #[⟨6, .data⟩, ⟨11, .data⟩, ⟨4, .guard⟩], (some (4, false))⟩)  rfl (by kernel_rfl) (fun _ _ _ h => h) hSw0 (yieldsIf_skip rfl) ?hrest_13
        try simp only [Act.put, List.setIfInBounds_toArray, List.set_cons_zero, List.set_cons_succ]
        refine wpAnyL_take 13 (oi := ⟨(some 64), (.pick (.tmp 55) (.const (.bool true)) (.tmp 63)), 4, "page.go:130", #[⟨4, .data⟩, ⟨12, .data⟩, ⟨1, .guard⟩], (some (1, true))⟩)  rfl (by kernel_rfl) (fun _ _ _ h => h) hSw0 (yieldsIf_skip rfl) ?hrest_14
        try simp only [Act.put, List.setIfInBounds_toArray, List.set_cons_zero, List.set_cons_succ]
        refine wpAnyL_take 14 (oi := ⟨(some 65), (.pick (.tmp 52) (.tmp 64) (.const (.bool false))), 4, "page.go:130", #[⟨1, .data⟩, ⟨13, .data⟩], none⟩) (v := ?v_15) rfl (by kernel_rfl) (fun _ _ _ h => h) hSw0 (yieldsIf_of rfl ?hy_15) ?hrest_15
        case hy_15 => (intro w_ hS_; (first | (go_simp; done) | (go_simp; with_reducible rfl)))
        try simp only [Act.put, List.setIfInBounds_toArray, List.set_cons_zero, List.set_cons_succ]
        refine wpAnyL_done (by kernel_rfl) ?_ _
        go_wp2
        go_roundw
        case rel =>
          refine ⟨k + 1, by omega, ?_, by go_num, HFW.drew, HM4, ?_⟩
          · rw [HE.out, openStep, if_neg hno]
          · rw [HE.out, openStep, if_neg hno]; exact HB4
        case measure => simp [intOf]; omega
      | true =>
        have hyes : (at_ < 0 ∨ num < hn) → ((true : Bool) = true ∧ (at_ < 0 ∨ num < hn)) := fun h => ⟨rfl, h⟩
        by_cases hat : at_ < 0
        · skip
          refine wp_region_L (Fr C0 (w2.alloc (.cells #[.int .u64 (hn : Int), .int .i64 (hrt : Int)] 89))) [] (by kernel_rfl) ?_
          have hSw0 : (Fr C0 (w2.alloc (.cells #[.int .u64 (hn : Int), .int .i64 (hrt : Int)] 89))) _ := (Fr.refl C0 _).drew
          refine wpAnyL_take 0 (oi := ⟨(some 51), (.move (.tmp 10)), 4, "page.go:130", #[], none⟩) (v := ?v_16) rfl (by kernel_rfl) (fun _ _ _ h => h) hSw0 (yieldsIf_of rfl ?hy_16) ?hrest_16
          case hy_16 => (intro w_ hS_; (first | (go_simp; done) | (go_simp; with_reducible rfl)))
          try simp only [Act.put, List.setIfInBounds_toArray, List.set_cons_zero, List.set_cons_succ]
          refine wpAnyL_take 1 (oi := ⟨(some 52), (.move (.tmp 51)), 4, "page.go:130", #[⟨0, .data⟩], none⟩) (v := ?v_17) rfl (by kernel_rfl) (fun _ _ _ h => h) hSw0 (yieldsIf_of rfl ?hy_17) ?hrest_17
          case hy_17 => (intro w_ hS_; (first | (go_simp; done) | (go_simp; with_reducible rfl)))
          try simp only [Act.put, List.setIfInBounds_toArray, List.set_cons_zero, List.set_cons_succ]
          refine wpAnyL_take 2 (oi := ⟨(some 53), (.move (.tmp 5)), 3, "page.go:130", #[⟨1, .guard⟩], (some (1, true))⟩) (v := ?v_18) rfl (by kernel_rfl) (fun _ _ _ h => h) hSw0 (yieldsIf_of rfl ?hy_18) ?hrest_18
          case hy_18 => (intro w_ hS_; (first | (go_simp; done) | (go_simp; with_reducible rfl)))
          try simp only [Act.put, List.setIfInBounds_toArray, List.set_cons_zero, List.set_cons_succ]
          refine wpAnyL_take 3 (oi := ⟨(some 54), (.binOp .lss 3 (.tmp 53) (.const (.int .i64 0)) 3), 4, "page.go:130", #[⟨2, .data⟩, ⟨1, .guard⟩], (some (1, true))⟩) (v := ?v_19) rfl (by kernel_rfl) (fun _ _ _ h => h) hSw0 (yieldsIf_of rfl ?hy_19) ?hrest_19
          case hy_19 => (intro w_ hS_; (first | (go_simp; done) | (go_simp; with_reducible rfl)))
          try simp only [Act.put, List.setIfInBounds_toArray, List.set_cons_zero, List.set_cons_succ]
          refine wpAnyL_take 4 (oi := ⟨(some 55), (.move (.tmp 54)), 4, "page.go:130", #[⟨3, .data⟩, ⟨1, .chain⟩, ⟨1, .guard⟩], (some (1, true))⟩) (v := ?v_20) rfl (by kernel_rfl) (fun _ _ _ h => h) hSw0 (yieldsIf_of rfl ?hy_20) ?hrest_20
          case hy_20 => (intro w_ hS_; (first | (go_simp; done) | (go_simp; with_reducible rfl)))
          try simp only [Act.put, List.setIfInBounds_toArray, List.set_cons_zero, List.set_cons_succ]
          refine wpAnyL_take 5 (oi := ⟨(some 56), (.fieldAddr 89 (.tmp 9) 0), 0, "page.go:130", #[⟨4, .guard⟩], (some (4, false))⟩)  rfl (by kernel_rfl) (fun _ _ _ h => h) hSw0 (yieldsIf_skip rfl) ?hrest_21
          try simp only [Act.put, List.setIfInBounds_toArray, List.set_cons_zero, List.set_cons_succ]
          refine wpAnyL_take 6 (oi := ⟨(some 57), (.load 87 (.tmp 56)), 87, "page.go:130", #[⟨5, .data⟩, ⟨4, .guard⟩], (some (4, false))⟩)  rfl (by kernel_rfl) (fun _ _ _ h => h) hSw0 (yieldsIf_skip rfl) ?hrest_22
          try simp only [Act.put, List.setIfInBounds_toArray, List.set_cons_zero, List.set_cons_succ]
          refine wpAnyL_take 7 (oi := ⟨(some 58), (.move (.tmp 4)), 63, "page.go:130", #[⟨4, .guard⟩], (some (4, false))⟩)  rfl (by kernel_rfl) (fun _ _ _ h => h) hSw0 (yieldsIf_skip rfl) ?hrest_23
          try simp only [Act.put, List.setIfInBounds_toArray, List.set_cons_zero, List.set_cons_succ]
          refine wpAnyL_take 8 (oi := ⟨(some 59), (.nilCheck (.tmp 58)), 0, "page.go:130", #[⟨7, .data⟩, ⟨4, .guard⟩], (some (4, false))⟩)  rfl (by kernel_rfl) (fun _ _ _ h => h) hSw0 (yieldsIf_skip rfl) ?hrest_24
          try simp only [Act.put, List.setIfInBounds_toArray, List.set_cons_zero, List.set_cons_succ]
          refine wpAnyL_take 9 (oi := ⟨(some 60), (.fieldAddr 91 (.tmp 59) 3), 0, "page.go:130", #[⟨8, .data⟩, ⟨4, .guard⟩], (some (4, false))⟩)  rfl (by kernel_rfl) (fun _ _ _ h => h) hSw0 (yieldsIf_skip rfl) ?hrest_25
          try simp only [Act.put, List.setIfInBounds_toArray, List.set_cons_zero, List.set_cons_succ]
          refine wpAnyL_take 10 (oi := ⟨(some 61), (.fieldAddr 89 (.tmp 60) 0), 0, "page.go:130", #[⟨9, .data⟩, ⟨4, .guard⟩], (some (4, false))⟩)  rfl (by kernel_rfl) (fun _ _ _ h => h) hSw0 (yieldsIf_skip rfl) ?hrest_26
          try simp only [Act.put, List.setIfInBounds_toArray, List.set_cons_zero, List.set_cons_succ]
          refine wpAnyL_take 11 (oi := ⟨(some 62), (.load 87 (.tmp 61)), 87, "page.go:130", #[⟨10, .data⟩, ⟨4, .guard⟩], (some (4, false))⟩)  rfl (by kernel_rfl) (fun _ _ _ h => h) hSw0 (yieldsIf_skip rfl) ?hrest_27
          try simp only [Act.put, List.setIfInBounds_toArray, List.set_cons_zero, List.set_cons_succ]
          refine wpAnyL_take 12 (oi := ⟨(some 63), (.binOp .gtr 87 (.tmp 57) (.tmp 62) 87), 4, "page.go:130", #[⟨6, .data⟩, ⟨11, .data⟩, ⟨4, .guard⟩], (some (4, false))⟩)  rfl (by kernel_rfl) (fun _ _ _ h => h) hSw0 (yieldsIf_skip rfl) ?hrest_28
          try simp only [Act.put, List.setIfInBounds_toArray, List.set_cons_zero, List.set_cons_succ]
          refine wpAnyL_take 13 (oi := ⟨(some 64), (.pick (.tmp 55) (.const (.bool true)) (.tmp 63)), 4, "page.go:130", #[⟨4, .data⟩, ⟨12, .data⟩, ⟨1, .guard⟩], (some (1, true))⟩) (v := ?v_29) rfl (by kernel_rfl) (fun _ _ _ h => h) hSw0 (yieldsIf_of rfl ?hy_29) ?hrest_29
          case hy_29 => (intro w_ hS_; (first | (go_simp; done) | (go_simp; with_reducible rfl)))
          try simp only [Act.put, List.setIfInBounds_toArray, List.set_cons_zero, List.set_cons_succ]
          refine wpAnyL_take 14 (oi := ⟨(some 65), (.pick (.tmp 52) (.tmp 64) (.const (.bool false))), 4, "page.go:130", #[⟨1, .data⟩, ⟨13, .data⟩], none⟩) (v := ?v_30) rfl (by kernel_rfl) (fun _ _ _ h => h) hSw0 (yieldsIf_of rfl ?hy_30) ?hrest_30
          case hy_30 => (intro w_ hS_; (first | (go_simp; done) | (go_simp; with_reducible rfl)))
          try simp only [Act.put, List.setIfInBounds_toArray, List.set_cons_zero, List.set_cons_succ]
          refine wpAnyL_done (by kernel_rfl) ?_ _
          go_wp2
          go_roundw
          case rel =>
            refine ⟨k + 1, by omega, ?_, by go_num, (HFW.setCell (p := ⟨w.heap.size + 1, 4, none⟩) (.inl (by simp)) _).setCell (p := ⟨w.heap.size + 1, 5, none⟩) (.inl (by simp)) _ |>.drew, ?_, ?_⟩
            · rw [HE.out, openStep, if_pos (hyes (.inl hat))]
            · exact (((Fr.refl (fun b => b = w.heap.size + 1) _).setCell (p := ⟨w.heap.size + 1, 4, none⟩) (.inr rfl) _).setCell (p := ⟨w.heap.size + 1, 5, none⟩) (.inr rfl) _).blk HM4 (by simp)
            · rw [HE.out, openStep, if_pos (hyes (.inl hat))]; exact blk_set (i := 5) (blk_set (i := 4) HB4.out _) _
          case measure => simp [intOf]; omega
        · by_cases hnum : num < hn
          · have hnum' : (num : Int) < (hn : Int) := by omega
            refine wp_region_L (Fr C0 (w2.alloc (.cells #[.int .u64 (hn : Int), .int .i64 (hrt : Int)] 89))) [] (by kernel_rfl) ?_
            have hSw0 : (Fr C0 (w2.alloc (.cells #[.int .u64 (hn : Int), .int .i64 (hrt : Int)] 89))) _ := (Fr.refl C0 _).drew
            refine wpAnyL_take 0 (oi := ⟨(some 51), (.move (.tmp 10)), 4, "page.go:130", #[], none⟩) (v := ?v_31) rfl (by kernel_rfl) (fun _ _ _ h => h) hSw0 (yieldsIf_of rfl ?hy_31) ?hrest_31
            case hy_31 => (intro w_ hS_; (first | (go_simp; done) | (go_simp; with_reducible rfl)))
            try simp only [Act.put, List.setIfInBounds_toArray, List.set_cons_zero, List.set_cons_succ]
            refine wpAnyL_take 1 (oi := ⟨(some 52), (.move (.tmp 51)), 4, "page.go:130", #[⟨0, .data⟩], none⟩) (v := ?v_32) rfl (by kernel_rfl) (fun _ _ _ h => h) hSw0 (yieldsIf_of rfl ?hy_32) ?hrest_32
            case hy_32 => (intro w_ hS_; (first | (go_simp; done) | (go_simp; with_reducible rfl)))
            try simp only [Act.put, List.setIfInBounds_toArray, List.set_cons_zero, List.set_cons_succ]
            refine wpAnyL_take 2 (oi := ⟨(some 53), (.move (.tmp 5)), 3, "page.go:130", #[⟨1, .guard⟩], (some (1, true))⟩) (v := ?v_33) rfl (by kernel_rfl) (fun _ _ _ h => h) hSw0 (yieldsIf_of rfl ?hy_33) ?hrest_33
            case hy_33 => (intro w_ hS_; (first | (go_simp; done) | (go_simp; with_reducible rfl)))
            try simp only [Act.put, List.setIfInBounds_toArray, List.set_cons_zero, List.set_cons_succ]
            refine wpAnyL_take 3 (oi := ⟨(some 54), (.binOp .lss 3 (.tmp 53) (.const (.int .i64 0)) 3), 4, "page.go:130", #[⟨2, .data⟩, ⟨1, .guard⟩], (some (1, true))⟩) (v := ?v_34) rfl (by kernel_rfl) (fun _ _ _ h => h) hSw0 (yieldsIf_of rfl ?hy_34) ?hrest_34
            case hy_34 => (intro w_ hS_; (first | (go_simp; done) | (go_simp; with_reducible rfl)))
            try simp only [Act.put, List.setIfInBounds_toArray, List.set_cons_zero, List.set_cons_succ]
            refine wpAnyL_take 4 (oi := ⟨(some 55), (.move (.tmp 54)), 4, "page.go:130", #[⟨3, .data⟩, ⟨1, .chain⟩, ⟨1, .guard⟩], (some (1, true))⟩) (v := ?v_35) rfl (by kernel_rfl) (fun _ _ _ h => h) hSw0 (yieldsIf_of rfl ?hy_35) ?hrest_35
            case hy_35 => (intro w_ hS_; (first | (go_simp; done) | (go_simp; with_reducible rfl)))
            try simp only [Act.put, List.setIfInBounds_toArray, List.set_cons_zero, List.set_cons_succ]
            refine wpAnyL_take 5 (oi := ⟨(some 56), (.fieldAddr 89 (.tmp 9) 0), 0, "page.go:130", #[⟨4, .guard⟩], (some (4, false))⟩) (v := ?v_36) rfl (by kernel_rfl) (fun _ _ _ h => h) hSw0 (yieldsIf_of rfl ?hy_36) ?hrest_36
            case hy_36 => (intro w_ hS_; (first | (go_simp; done) | (go_simp; with_reducible rfl)))
            try simp only [Act.put, List.setIfInBounds_toArray, List.set_cons_zero, List.set_cons_succ]
            refine wpAnyL_take 6 (oi := ⟨(some 57), (.load 87 (.tmp 56)), 87, "page.go:130", #[⟨5, .data⟩, ⟨4, .guard⟩], (some (4, false))⟩) (v := ?v_37) rfl (by kernel_rfl) (fun _ _ _ h => h) hSw0 (yieldsIf_of rfl ?hy_37) ?hrest_37
            case hy_37 => (intro w_ hS_; have b0 := hS_.cell0 q0; have b4 := hS_.cell0 s4; (first | (go_simp; done) | (go_simp; with_reducible rfl)))
            try simp only [Act.put, List.setIfInBounds_toArray, List.set_cons_zero, List.set_cons_succ]
            refine wpAnyL_take 7 (oi := ⟨(some 58), (.move (.tmp 4)), 63, "page.go:130", #[⟨4, .guard⟩], (some (4, false))⟩) (v := ?v_38) rfl (by kernel_rfl) (fun _ _ _ h => h) hSw0 (yieldsIf_of rfl ?hy_38) ?hrest_38
            case hy_38 => (intro w_ hS_; (first | (go_simp; done) | (go_simp; with_reducible rfl)))
            try simp only [Act.put, List.setIfInBounds_toArray, List.set_cons_zero, List.set_cons_succ]
            refine wpAnyL_take 8 (oi := ⟨(some 59), (.nilCheck (.tmp 58)), 0, "page.go:130", #[⟨7, .data⟩, ⟨4, .guard⟩], (some (4, false))⟩) (v := ?v_39) rfl (by kernel_rfl) (fun _ _ _ h => h) hSw0 (yieldsIf_of rfl ?hy_39) ?hrest_39
            case hy_39 => (intro w_ hS_; (first | (go_simp; done) | (go_simp; with_reducible rfl)))
            try simp only [Act.put, List.setIfInBounds_toArray, List.set_cons_zero, List.set_cons_succ]
            refine wpAnyL_take 9 (oi := ⟨(some 60), (.fieldAddr 91 (.tmp 59) 3), 0, "page.go:130", #[⟨8, .data⟩, ⟨4, .guard⟩], (some (4, false))⟩) (v := ?v_40) rfl (by kernel_rfl) (fun _ _ _ h => h) hSw0 (yieldsIf_of rfl ?hy_40) ?hrest_40
            case hy_40 => (intro w_ hS_; (first | (go_simp; done) | (go_simp; with_reducible rfl)))
            try simp only [Act.put, List.setIfInBounds_toArray, List.set_cons_zero, List.set_cons_succ]
            refine wpAnyL_take 10 (oi := ⟨(some 61), (.fieldAddr 89 (.tmp 60) 0), 0, "page.go:130", #[⟨9, .data⟩, ⟨4, .guard⟩], (some (4, false))⟩) (v := ?v_41) rfl (by kernel_rfl) (fun _ _ _ h => h) hSw0 (yieldsIf_of rfl ?hy_41) ?hrest_41
            case hy_41 => (intro w_ hS_; (first | (go_simp; done) | (go_simp; with_reducible rfl)))
            try simp only [Act.put, List.setIfInBounds_toArray, List.set_cons_zero, List.set_cons_succ]
            refine wpAnyL_take 11 (oi := ⟨(some 62), (.load 87 (.tmp 61)), 87, "page.go:130", #[⟨10, .data⟩, ⟨4, .guard⟩], (some (4, false))⟩) (v := ?v_42) rfl (by kernel_rfl) (fun _ _ _ h => h) hSw0 (yieldsIf_of rfl ?hy_42) ?hrest_42
            case hy_42 => (intro w_ hS_; have b0 := hS_.cell0 q0; have b4 := hS_.cell0 s4; (first | (go_simp; done) | (go_simp; with_reducible rfl)))
            try simp only [Act.put, List.setIfInBounds_toArray, List.set_cons_zero, List.set_cons_succ]
            refine wpAnyL_take 12 (oi := ⟨(some 63), (.binOp .gtr 87 (.tmp 57) (.tmp 62) 87), 4, "page.go:130", #[⟨6, .data⟩, ⟨11, .data⟩, ⟨4, .guard⟩], (some (4, false))⟩) (v := ?v_43) rfl (by kernel_rfl) (fun _ _ _ h => h) hSw0 (yieldsIf_of rfl ?hy_43) ?hrest_43
            case hy_43 => (intro w_ hS_; (first | (go_simp; done) | (go_simp; with_reducible rfl)))
            try simp only [Act.put, List.setIfInBounds_toArray, List.set_cons_zero, List.set_cons_succ]
            refine wpAnyL_take 13 (oi := ⟨(some 64), (.pick (.tmp 55) (.const (.bool true)) (.tmp 63)), 4, "page.go:130", #[⟨4, .data⟩, ⟨12, .data⟩, ⟨1, .guard⟩], (some (1, true))⟩) (v := ?v_44) rfl (by kernel_rfl) (fun _ _ _ h => h) hSw0 (yieldsIf_of rfl ?hy_44) ?hrest_44
            case hy_44 => (intro w_ hS_; (first | (go_simp; done) | (go_simp; with_reducible rfl)))
            try simp only [Act.put, List.setIfInBounds_toArray, List.set_cons_zero, List.set_cons_succ]
            refine wpAnyL_take 14 (oi := ⟨(some 65), (.pick (.tmp 52) (.tmp 64) (.const (.bool false))), 4, "page.go:130", #[⟨1, .data⟩, ⟨13, .data⟩], none⟩) (v := ?v_45) rfl (by kernel_rfl) (fun _ _ _ h => h) hSw0 (yieldsIf_of rfl ?hy_45) ?hrest_45
            case hy_45 => (intro w_ hS_; (first | (go_simp; done) | (go_simp; with_reducible rfl)))
            try simp only [Act.put, List.setIfInBounds_toArray, List.set_cons_zero, List.set_cons_succ]
            refine wpAnyL_done (by kernel_rfl) ?_ _
            go_wp2
            go_roundw
            case rel =>
              refine ⟨k + 1, by omega, ?_, by go_num, (HFW.setCell (p := ⟨w.heap.size + 1, 4, none⟩) (.inl (by simp)) _).setCell (p := ⟨w.heap.size + 1, 5, none⟩) (.inl (by simp)) _ |>.drew, ?_, ?_⟩
              · rw [HE.out, openStep, if_pos (hyes (.inr hnum))]
              · exact (((Fr.refl (fun b => b = w.heap.size + 1) _).setCell (p := ⟨w.heap.size + 1, 4, none⟩) (.inr rfl) _).setCell (p := ⟨w.heap.size + 1, 5, none⟩) (.inr rfl) _).blk HM4 (by simp)
              · rw [HE.out, openStep, if_pos (hyes (.inr hnum))]; exact blk_set (i := 5) (blk_set (i := 4) HB4.out _) _
            case measure => simp [intOf]; omega
          · have hnum' : ¬ (num : Int) < (hn : Int) := by omega
            refine wp_region_L (Fr C0 (w2.alloc (.cells #[.int .u64 (hn : Int), .int .i64 (hrt : Int)] 89))) [] (by kernel_rfl) ?_
            have hSw0 : (Fr C0 (w2.alloc (.cells #[.int .u64 (hn : Int), .int .i64 (hrt : Int)] 89))) _ := (Fr.refl C0 _).drew
            refine wpAnyL_take 0 (oi := ⟨(some 51), (.move (.tmp 10)), 4, "page.go:130", #[], none⟩) (v := ?v_46) rfl (by kernel_rfl) (fun _ _ _ h => h) hSw0 (yieldsIf_of rfl ?hy_46) ?hrest_46
            case hy_46 => (intro w_ hS_; (first | (go_simp; done) | (go_simp; with_reducible rfl)))
            try simp only [Act.put, List.setIfInBounds_toArray, List.set_cons_zero, List.set_cons_succ]
            refine wpAnyL_take 1 (oi := ⟨(some 52), (.move (.tmp 51)), 4, "page.go:130", #[⟨0, .data⟩], none⟩) (v := ?v_47) rfl (by kernel_rfl) (fun _ _ _ h => h) hSw0 (yieldsIf_of rfl ?hy_47) ?hrest_47
            case hy_47 => (intro w_ hS_; (first | (go_simp; done) | (go_simp; with_reducible rfl)))
            try simp only [Act.put, List.setIfInBounds_toArray, List.set_cons_zero, List.set_cons_succ]
            refine wpAnyL_take 2 (oi := ⟨(some 53), (.move (.tmp 5)), 3, "page.go:130", #[⟨1, .guard⟩], (some (1, true))⟩) (v := ?v_48) rfl (by kernel_rfl) (fun _ _ _ h => h) hSw0 (yieldsIf_of rfl ?hy_48) ?hrest_48
            case hy_48 => (intro w_ hS_; (first | (go_simp; done) | (go_simp; with_reducible rfl)))
            try simp only [Act.put, List.setIfInBounds_toArray, List.set_cons_zero, List.set_cons_succ]
            refine wpAnyL_take 3 (oi := ⟨(some 54), (.binOp .lss 3 (.tmp 53) (.const (.int .i64 0)) 3), 4, "page.go:130", #[⟨2, .data⟩, ⟨1, .guard⟩], (some (1, true))⟩) (v := ?v_49) rfl (by kernel_rfl) (fun _ _ _ h => h) hSw0 (yieldsIf_of rfl ?hy_49) ?hrest_49
            case hy_49 => (intro w_ hS_; (first | (go_simp; done) | (go_simp; with_reducible rfl)))
            try simp only [Act.put, List.setIfInBounds_toArray, List.set_cons_zero, List.set_cons_succ]
            refine wpAnyL_take 4 (oi := ⟨(some 55), (.move (.tmp 54)), 4, "page.go:130", #[⟨3, .data⟩, ⟨1, .chain⟩, ⟨1, .guard⟩], (some (1, true))⟩) (v := ?v_50) rfl (by kernel_rfl) (fun _ _ _ h => h) hSw0 (yieldsIf_of rfl ?hy_50) ?hrest_50
            case hy_50 => (intro w_ hS_; (first | (go_simp; done) | (go_simp; with_reducible rfl)))
            try simp only [Act.put, List.setIfInBounds_toArray, List.set_cons_zero, List.set_cons_succ]
            refine wpAnyL_take 5 (oi := ⟨(some 56), (.fieldAddr 89 (.tmp 9) 0), 0, "page.go:130", #[⟨4, .guard⟩], (some (4, false))⟩) (v := ?v_51) rfl (by kernel_rfl) (fun _ _ _ h => h) hSw0 (yieldsIf_of rfl ?hy_51) ?hrest_51
            case hy_51 => (intro w_ hS_; (first | (go_simp; done) | (go_simp; with_reducible rfl)))
            try simp only [Act.put, List.setIfInBounds_toArray, List.set_cons_zero, List.set_cons_succ]
            refine wpAnyL_take 6 (oi := ⟨(some 57), (.load 87 (.tmp 56)), 87, "page.go:130", #[⟨5, .data⟩, ⟨4, .guard⟩], (some (4, false))⟩) (v := ?v_52) rfl (by kernel_rfl) (fun _ _ _ h => h) hSw0 (yieldsIf_of rfl ?hy_52) ?hrest_52
            case hy_52 => (intro w_ hS_; have b0 := hS_.cell0 q0; have b4 := hS_.cell0 s4; (first | (go_simp; done) | (go_simp; with_reducible rfl)))
            try simp only [Act.put, List.setIfInBounds_toArray, List.set_cons_zero, List.set_cons_succ]
            refine wpAnyL_take 7 (oi := ⟨(some 58), (.move (.tmp 4)), 63, "page.go:130", #[⟨4, .guard⟩], (some (4, false))⟩) (v := ?v_53) rfl (by kernel_rfl) (fun _ _ _ h => h) hSw0 (yieldsIf_of rfl ?hy_53) ?hrest_53
            case hy_53 => (intro w_ hS_; (first | (go_simp; done) | (go_simp; with_reducible rfl)))
            try simp only [Act.put, List.setIfInBounds_toArray, List.set_cons_zero, List.set_cons_succ]
            refine wpAnyL_take 8 (oi := ⟨(some 59), (.nilCheck (.tmp 58)), 0, "page.go:130", #[⟨7, .data⟩, ⟨4, .guard⟩], (some (4, false))⟩) (v := ?v_54) rfl (by kernel_rfl) (fun _ _ _ h => h) hSw0 (yieldsIf_of rfl ?hy_54) ?hrest_54
            case hy_54 => (intro w_ hS_; (first | (go_simp; done) | (go_simp; with_reducible rfl)))
            try simp only [Act.put, List.setIfInBounds_toArray, List.set_cons_zero, List.set_cons_succ]
            refine wpAnyL_take 9 (oi := ⟨(some 60), (.fieldAddr 91 (.tmp 59) 3), 0, "page.go:130", #[⟨8, .data⟩, ⟨4, .guard⟩], (some (4, false))⟩) (v := ?v_55) rfl (by kernel_rfl) (fun _ _ _ h => h) hSw0 (yieldsIf_of rfl ?hy_55) ?hrest_55
            case hy_55 => (intro w_ hS_; (first | (go_simp; done) | (go_simp; with_reducible rfl)))
            try simp only [Act.put, List.setIfInBounds_toArray, List.set_cons_zero, List.set_cons_succ]
            refine wpAnyL_take 10 (oi := ⟨(some 61), (.fieldAddr 89 (.tmp 60) 0), 0, "page.go:130", #[⟨9, .data⟩, ⟨4, .guard⟩], (some (4, false))⟩) (v := ?v_56) rfl (by kernel_rfl) (fun _ _ _ h => h) hSw0 (yieldsIf_of rfl ?hy_56) ?hrest_56
            case hy_56 => (intro w_ hS_; (first | (go_simp; done) | (go_simp; with_reducible rfl)))
            try simp only [Act.put, List.setIfInBounds_toArray, List.set_cons_zero, List.set_cons_succ]
            refine wpAnyL_take 11 (oi := ⟨(some 62), (.load 87 (.tmp 61)), 87, "page.go:130", #[⟨10, .data⟩, ⟨4, .guard⟩], (some (4, false))⟩) (v := ?v_57) rfl (by kernel_rfl) (fun _ _ _ h => h) hSw0 (yieldsIf_of rfl ?hy_57) ?hrest_57
            case hy_57 => (intro w_ hS_; have b0 := hS_.cell0 q0; have b4 := hS_.cell0 s4; (first | (go_simp; done) | (go_simp; with_reducible rfl)))
            try simp only [Act.put, List.setIfInBounds_toArray, List.set_cons_zero, List.set_cons_succ]
            refine wpAnyL_take 12 (oi := ⟨(some 63), (.binOp .gtr 87 (.tmp 57) (.tmp 62) 87), 4, "page.go:130", #[⟨6, .data⟩, ⟨11, .data⟩, ⟨4, .guard⟩], (some (4, false))⟩) (v := ?v_58) rfl (by kernel_rfl) (fun _ _ _ h => h) hSw0 (yieldsIf_of rfl ?hy_58) ?hrest_58
            case hy_58 => (intro w_ hS_; (first | (go_simp; done) | (go_simp; with_reducible rfl)))
            try simp only [Act.put, List.setIfInBounds_toArray, List.set_cons_zero, List.set_cons_succ]
            refine wpAnyL_take 13 (oi := ⟨(some 64), (.pick (.tmp 55) (.const (.bool true)) (.tmp 63)), 4, "page.go:130", #[⟨4, .data⟩, ⟨12, .data⟩, ⟨1, .guard⟩], (some (1, true))⟩) (v := ?v_59) rfl (by kernel_rfl) (fun _ _ _ h => h) hSw0 (yieldsIf_of rfl ?hy_59) ?hrest_59
            case hy_59 => (intro w_ hS_; (first | (go_simp; done) | (go_simp; with_reducible rfl)))
            try simp only [Act.put, List.setIfInBounds_toArray, List.set_cons_zero, List.set_cons_succ]
            refine wpAnyL_take 14 (oi := ⟨(some 65), (.pick (.tmp 52) (.tmp 64) (.const (.bool false))), 4, "page.go:130", #[⟨1, .data⟩, ⟨13, .data⟩], none⟩) (v := ?v_60) rfl (by kernel_rfl) (fun _ _ _ h => h) hSw0 (yieldsIf_of rfl ?hy_60) ?hrest_60
            case hy_60 => (intro w_ hS_; (first | (go_simp; done) | (go_simp; with_reducible rfl)))
            try simp only [Act.put, List.setIfInBounds_toArray, List.set_cons_zero, List.set_cons_succ]
            refine wpAnyL_done (by kernel_rfl) ?_ _
            go_wp2
            go_roundw
            case rel =>
              refine ⟨k + 1, by omega, ?_, by go_num, HFW.drew, HM4, ?_⟩
              · rw [HE.out, openStep, if_neg (fun h => h.2.elim hat hnum)]
              · rw [HE.out, openStep, if_neg (fun h => h.2.elim hat hnum)]; exact HB4
            case measure => simp [intOf]; omega
    · obtain rfl : k = 2 := by omega
      have hrg := openAcc_range (headsOf D) 2
      have HOP : Hid (openF (headsOf D) = if (openAcc (headsOf D) 2).1 < 0 then none else if (openAcc (headsOf D) 2).2.1 ≠ 0 ∧ (((openAcc (headsOf D) 2).2.1 % 2 : Nat) : Int) ≠ (openAcc (headsOf D) 2).1 then none else some (openAcc (headsOf D) 2).2) := Lib.hid rfl
      generalize openAcc (headsOf D) 2 = acc at *
      obtain ⟨at_, num, root⟩ := acc
      simp only at HS HOP hrg ⊢
      have s4 := blk_cell HS.out 4 rfl
      have HOK : Hid (openF (headsOf D) = some (num, root) → OpenRes c r w wr D (.returned (.tuple #[.pointer (some ⟨w.heap.size + 1, 0, none⟩), .int .i64 0])) (openF (headsOf D))) := by
        refine Lib.hid fun e => ?_
        rw [e]
        have hlt := (Array.getElem?_eq_some_iff.1 H.out.blk).1
        have hml : m < w.heap.size := by obtain ⟨M, k1, _⟩ := H.out.kept; exact k1.lt
        have hst := (Array.getElem?_eq_some_iff.1 HS.out).1
        have hsm := (Array.getElem?_eq_some_iff.1 HM.out).1
        have hsz := HF.out.size
        have hag : Ag w.heap.size c (fun b => if b = w.heap.size ∨ b = w.heap.size + 1 then r else c b) := fun b hb => by simp only []; rw [if_neg (by omega)]
        have hD := (DiskOk.ag (c := c) (r := r) (c' := fun b => if b = w.heap.size ∨ b = w.heap.size + 1 then r else c b) (s := D) ⟨m, ov, H.out, hod, hom, HO.out⟩ hag)
        refine ⟨w.heap.size + 1, rfl, fun b => if b = w.heap.size ∨ b = w.heap.size + 1 then r else c b, hag, fun b hb => ?_, w.heap.size, d, m, ov, ⟨HS.out, ⟨#[], 0, HM.out, ?_⟩, ?_, ?_, ?_, ?_, ?_, ?_, ?_⟩⟩
        · simp only []; rw [if_neg (by omega)]; exact HC.out b (by omega)
        · exact ⟨rfl, by simp [vmap], by simp, by simp⟩
        · exact (H.out.mono (F' := Dt (fun b => if b = w.heap.size ∨ b = w.heap.size + 1 then r else c b)) (fun b hb hl => (hag b hl).trans hb)).fr0 HF.out
        · simp
        · simp
        · exact (hag d hlt).trans hod
        · exact (hag m hml).trans hom
        · intro b hb
          obtain ⟨xs, o1, _⟩ := H.out.opn
          exact (hag b (o1.lt b hb).2).trans (HO.out b hb)
        · omega
      by_cases hat : at_ < 0
      · go_wp2
        go_ret2
        exact ⟨HF.out, by rw [HOP.out, if_pos hat]; rfl⟩
      · have hat0 : ¬ at_ < 0 := hat
        by_cases h0 : num = 0
        · have h1 : ((num : Int) != 0) = false := by simp [h0]
          go_wp2
          go_ret2
          exact ⟨HF.out, HOK.out (by rw [HOP.out, if_neg (show ¬ at_ < 0 by omega), if_neg (by simp [h0])])⟩
        · have h1 : ((num : Int) != 0) = true := by simp [bne, beq_dec]; omega
          have htm : (num : Int).tmod 2 = ((num % 2 : Nat) : Int) := by rw [Int.tmod_eq_emod_of_nonneg (by omega)]; omega
          have hwr : IntKind.i64.wrap ((num % 2 : Nat) : Int) = ((num % 2 : Nat) : Int) := by rw [IntWalk.i64_in _ (by omega)]
          by_cases h2 : ((num % 2 : Nat) : Int) = at_
          · have h3 : (((num % 2 : Nat) : Int) != at_) = false := by simp [bne, beq_dec, h2]
            go_wp2
            go_ret2
            exact ⟨HF.out, HOK.out (by rw [HOP.out, if_neg (show ¬ at_ < 0 by omega), if_neg (fun h => h.2 h2)])⟩
          · have h3 : (((num % 2 : Nat) : Int) != at_) = true := by simp [bne, beq_dec]; omega
            go_wp2
            go_ret2
            exact ⟨HF.out, by rw [HOP.out, if_neg (show ¬ at_ < 0 by omega), if_pos ⟨h0, h2⟩]; rfl⟩
end Go.Proofs.Ytcmicdcikechkaa
end
