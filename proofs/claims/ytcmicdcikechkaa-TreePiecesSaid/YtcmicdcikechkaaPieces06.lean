import Derived.Test.YtcmicdcikechkaaPieces05
import Derived.Test.YtcmicdcikechkaaPieces04
set_option linter.all false
section
namespace Go.Proofs.Ytcmicdcikechkaa
open Go.RowKit Go.H
set_option maxHeartbeats 1000000
set_option maxRecDepth 100000
theorem sum_calls {F : Nat → Prop} {w : World} {v : Value} {l : List UInt8} (h : BytesAt F w v l) (hn : l.length ≤ 100000) :
    Calls Try.prog 101 #[v] w fun e w' => e = .returned (.int .u32 (crc l)) ∧ Fr C0 w w' := by
  have HR := Lib.hid h
  obtain ⟨A, c, rfl, h1, h2⟩ := h.form
  go_enter Try.func101, Try.ntmps101
  go_wp2_with fail
  refine (fill_calls (heap_alloc_new w _) (by kernel_rfl)).mono ?_
  rintro e w1 ⟨rfl, f1, cs, hg, hT⟩
  have HF1 : Hid (Fr C0 w w1) := Lib.hid (((Fr.refl C0 w).alloc _).trans f1 (fun i hi h => absurd h (by omega)))
  have HG := Lib.hid hg
  have HT := Lib.hid hT
  clear f1 hg hT h
  go_wp2
  go_loopw [0, 4] (fun b r wr => ∃ (A : Option Addr) (c : Nat) (l2 : List UInt8) (x : Int), b = .slice A l2.length c ∧ l2.length ≤ 100000 ∧ l2.length ≤ c ∧ r = .int .u32 x ∧ Hid (BytesAt F wr (.slice A l2.length c) l2) ∧ Hid (crcAll x l2 = crcAll 4294967295 l) ∧ Hid (U32 x) ∧ Hid (Fr C0 w wr) ∧ Hid (wr.heap[w.heap.size]? = some (.cells cs 172 (0, 0)))) (fun b _ _ => match b with | .slice _ n _ => n | _ => 0)
  case atStart => exact ⟨A, c, l, _, rfl, hn, h1, rfl, Lib.hid (HR.out.fr0 HF1.out), Lib.hid rfl, Lib.hid ⟨by omega, by omega⟩, HF1, HG⟩
  case round =>
    clear HF1 HG HR h1 h2 hn
    obtain ⟨A, c, l2, x, rfl, hn, hc, rfl, HB, HC, HU, HF, HG⟩ := hrel
    by_cases h4 : 4 ≤ l2.length
    · obtain ⟨g, o, rfl, _, b0⟩ := HB.out.at_ 0 (by omega)
      obtain ⟨g', o', he1, _, b1⟩ := HB.out.at_ 1 (by omega)
      obtain ⟨g', o', he2, _, b2⟩ := HB.out.at_ 2 (by omega)
      obtain ⟨g', o', he3, _, b3⟩ := HB.out.at_ 3 (by omega)
      cases he1; cases he2; cases he3
      rw [Nat.add_zero] at b0
      have i0 : (0 : Int) < (l2.length : Int) := by omega
      have i1 : (1 : Int) < (l2.length : Int) := by omega
      have i2 : (2 : Int) < (l2.length : Int) := by omega
      have i3 : (3 : Int) < (l2.length : Int) := by omega
      have j0 : 0 < l2.length := by omega
      have j1 : 1 < l2.length := by omega
      have j2 : 2 < l2.length := by omega
      have j3 : 3 < l2.length := by omega
      have y0 := l2[0].toNat_lt
      have y1 := l2[1].toNat_lt
      have y2 := l2[2].toNat_lt
      have y3 := l2[3].toNat_lt
      have w1' : IntKind.u32.wrap ((l2[1].toNat : Int) * 256) = (l2[1].toNat : Int) * 256 := wraps_u32' _ (by omega) (by omega)
      have w2' : IntKind.u32.wrap ((l2[2].toNat : Int) * 65536) = (l2[2].toNat : Int) * 65536 := wraps_u32' _ (by omega) (by omega)
      have w3' : IntKind.u32.wrap ((l2[3].toNat : Int) * 16777216) = (l2[3].toNat : Int) * 16777216 := wraps_u32' _ (by omega) (by omega)
      go_wp2
      refine wp_region_L (Fr C0 wr) [] (by kernel_rfl) ?_
      have hSw0 : (Fr C0 wr) _ := (Fr.refl _ wr).drew
      refine wpAnyL_take 0 (oi := ⟨(some 13), (.move (.tmp 4)), 160, "wire.go:103", #[], none⟩) (v := ?v_1) rfl (by kernel_rfl) (fun _ _ _ h => h) hSw0 (yieldsIf_of rfl ?hy_1) ?hrest_1
      case hy_1 => (intro w_ hS_; (first | (go_simp; done) | (go_simp; with_reducible rfl)))
      try simp only [Act.put, List.setIfInBounds_toArray, List.set_cons_zero, List.set_cons_succ]
      refine wpAnyL_take 1 (oi := ⟨(some 14), (.move (.tmp 0)), 23, "wire.go:103", #[], none⟩) (v := ?v_2) rfl (by kernel_rfl) (fun _ _ _ h => h) hSw0 (yieldsIf_of rfl ?hy_2) ?hrest_2
      case hy_2 => (intro w_ hS_; (first | (go_simp; done) | (go_simp; with_reducible rfl)))
      try simp only [Act.put, List.setIfInBounds_toArray, List.set_cons_zero, List.set_cons_succ]
      refine wpAnyL_take 2 (oi := ⟨(some 15), (.indexAddr 23 (.tmp 14) (.const (.int .i64 0))), 0, "wire.go:103", #[⟨1, .data⟩], none⟩) (v := ?v_3) rfl (by kernel_rfl) (fun _ _ _ h => h) hSw0 (yieldsIf_of rfl ?hy_3) ?hrest_3
      case hy_3 => (intro w_ hS_; (first | (go_simp; done) | (go_simp; with_reducible rfl)))
      try simp only [Act.put, List.setIfInBounds_toArray, List.set_cons_zero, List.set_cons_succ]
      refine wpAnyL_take 3 (oi := ⟨(some 16), (.load 5 (.tmp 15)), 5, "wire.go:103", #[⟨2, .data⟩], none⟩) (v := ?v_4) rfl (by kernel_rfl) (fun _ _ _ h => h) hSw0 (yieldsIf_of rfl ?hy_4) ?hrest_4
      case hy_4 => (intro w_ hS_; have c0 := hS_.cell0 b0; have c1 := hS_.cell0 b1; have c2 := hS_.cell0 b2; have c3 := hS_.cell0 b3; (first | (go_simp; done) | (go_simp; with_reducible rfl)))
      try simp only [Act.put, List.setIfInBounds_toArray, List.set_cons_zero, List.set_cons_succ]
      refine wpAnyL_take 4 (oi := ⟨(some 17), (.convert 5 160 (.tmp 16)), 160, "wire.go:103", #[⟨3, .data⟩], none⟩) (v := ?v_5) rfl (by kernel_rfl) (fun _ _ _ h => h) hSw0 (yieldsIf_of rfl ?hy_5) ?hrest_5
      case hy_5 => (intro w_ hS_; (first | (go_simp; done) | (go_simp; with_reducible rfl)))
      try simp only [Act.put, List.setIfInBounds_toArray, List.set_cons_zero, List.set_cons_succ]
      refine wpAnyL_take 5 (oi := ⟨(some 18), (.move (.tmp 0)), 23, "wire.go:103", #[], none⟩) (v := ?v_6) rfl (by kernel_rfl) (fun _ _ _ h => h) hSw0 (yieldsIf_of rfl ?hy_6) ?hrest_6
      case hy_6 => (intro w_ hS_; (first | (go_simp; done) | (go_simp; with_reducible rfl)))
      try simp only [Act.put, List.setIfInBounds_toArray, List.set_cons_zero, List.set_cons_succ]
      refine wpAnyL_take 6 (oi := ⟨(some 19), (.indexAddr 23 (.tmp 18) (.const (.int .i64 1))), 0, "wire.go:103", #[⟨5, .data⟩], none⟩) (v := ?v_7) rfl (by kernel_rfl) (fun _ _ _ h => h) hSw0 (yieldsIf_of rfl ?hy_7) ?hrest_7
      case hy_7 => (intro w_ hS_; (first | (go_simp; done) | (go_simp; with_reducible rfl)))
      try simp only [Act.put, List.setIfInBounds_toArray, List.set_cons_zero, List.set_cons_succ]
      refine wpAnyL_take 7 (oi := ⟨(some 20), (.load 5 (.tmp 19)), 5, "wire.go:103", #[⟨6, .data⟩], none⟩) (v := ?v_8) rfl (by kernel_rfl) (fun _ _ _ h => h) hSw0 (yieldsIf_of rfl ?hy_8) ?hrest_8
      case hy_8 => (intro w_ hS_; have c0 := hS_.cell0 b0; have c1 := hS_.cell0 b1; have c2 := hS_.cell0 b2; have c3 := hS_.cell0 b3; (first | (go_simp; done) | (go_simp; with_reducible rfl)))
      try simp only [Act.put, List.setIfInBounds_toArray, List.set_cons_zero, List.set_cons_succ]
      refine wpAnyL_take 8 (oi := ⟨(some 21), (.convert 5 160 (.tmp 20)), 160, "wire.go:103", #[⟨7, .data⟩], none⟩) (v := ?v_9) rfl (by kernel_rfl) (fun _ _ _ h => h) hSw0 (yieldsIf_of rfl ?hy_9) ?hrest_9
      case hy_9 => (intro w_ hS_; (first | (go_simp; done) | (go_simp; with_reducible rfl)))
      try simp only [Act.put, List.setIfInBounds_toArray, List.set_cons_zero, List.set_cons_succ]
      refine wpAnyL_take 9 (oi := ⟨(some 22), (.binOp .shl 160 (.tmp 21) (.const (.int .u64 8)) 165), 160, "wire.go:103", #[⟨8, .data⟩], none⟩) (v := ?v_10) rfl (by kernel_rfl) (fun _ _ _ h => h) hSw0 (yieldsIf_of rfl ?hy_10) ?hrest_10
      case hy_10 => (intro w_ hS_; (first | (go_simp; done) | (go_simp; with_reducible rfl)))
      try simp only [Act.put, List.setIfInBounds_toArray, List.set_cons_zero, List.set_cons_succ]
      refine wpAnyL_take 10 (oi := ⟨(some 23), (.binOp .or 160 (.tmp 17) (.tmp 22) 160), 160, "wire.go:103", #[⟨4, .data⟩, ⟨9, .data⟩], none⟩) (v := ?v_11) rfl (by kernel_rfl) (fun _ _ _ h => h) hSw0 (yieldsIf_of rfl ?hy_11) ?hrest_11
      case hy_11 => (intro w_ hS_; (first | (go_simp; done) | (go_simp; with_reducible rfl)))
      try simp only [Act.put, List.setIfInBounds_toArray, List.set_cons_zero, List.set_cons_succ]
      refine wpAnyL_take 11 (oi := ⟨(some 24), (.move (.tmp 0)), 23, "wire.go:103", #[], none⟩) (v := ?v_12) rfl (by kernel_rfl) (fun _ _ _ h => h) hSw0 (yieldsIf_of rfl ?hy_12) ?hrest_12
      case hy_12 => (intro w_ hS_; (first | (go_simp; done) | (go_simp; with_reducible rfl)))
      try simp only [Act.put, List.setIfInBounds_toArray, List.set_cons_zero, List.set_cons_succ]
      refine wpAnyL_take 12 (oi := ⟨(some 25), (.indexAddr 23 (.tmp 24) (.const (.int .i64 2))), 0, "wire.go:103", #[⟨11, .data⟩], none⟩) (v := ?v_13) rfl (by kernel_rfl) (fun _ _ _ h => h) hSw0 (yieldsIf_of rfl ?hy_13) ?hrest_13
      case hy_13 => (intro w_ hS_; (first | (go_simp; done) | (go_simp; with_reducible rfl)))
      try simp only [Act.put, List.setIfInBounds_toArray, List.set_cons_zero, List.set_cons_succ]
      refine wpAnyL_take 13 (oi := ⟨(some 26), (.load 5 (.tmp 25)), 5, "wire.go:103", #[⟨12, .data⟩], none⟩) (v := ?v_14) rfl (by kernel_rfl) (fun _ _ _ h => h) hSw0 (yieldsIf_of rfl ?hy_14) ?hrest_14
      case hy_14 => (intro w_ hS_; have c0 := hS_.cell0 b0; have c1 := hS_.cell0 b1; have c2 := hS_.cell0 b2; have c3 := hS_.cell0 b3; (first | (go_simp; done) | (go_simp; with_reducible rfl)))
      try simp only [Act.put, List.setIfInBounds_toArray, List.set_cons_zero, List.set_cons_succ]
      refine wpAnyL_take 14 (oi := ⟨(some 27), (.convert 5 160 (.tmp 26)), 160, "wire.go:103", #[⟨13, .data⟩], none⟩) (v := ?v_15) rfl (by kernel_rfl) (fun _ _ _ h => h) hSw0 (yieldsIf_of rfl ?hy_15) ?hrest_15
      case hy_15 => (intro w_ hS_; (first | (go_simp; done) | (go_simp; with_reducible rfl)))
      try simp only [Act.put, List.setIfInBounds_toArray, List.set_cons_zero, List.set_cons_succ]
      refine wpAnyL_take 15 (oi := ⟨(some 28), (.binOp .shl 160 (.tmp 27) (.const (.int .u64 16)) 165), 160, "wire.go:103", #[⟨14, .data⟩], none⟩) (v := ?v_16) rfl (by kernel_rfl) (fun _ _ _ h => h) hSw0 (yieldsIf_of rfl ?hy_16) ?hrest_16
      case hy_16 => (intro w_ hS_; (first | (go_simp; done) | (go_simp; with_reducible rfl)))
      try simp only [Act.put, List.setIfInBounds_toArray, List.set_cons_zero, List.set_cons_succ]
      refine wpAnyL_take 16 (oi := ⟨(some 29), (.binOp .or 160 (.tmp 23) (.tmp 28) 160), 160, "wire.go:103", #[⟨10, .data⟩, ⟨15, .data⟩], none⟩) (v := ?v_17) rfl (by kernel_rfl) (fun _ _ _ h => h) hSw0 (yieldsIf_of rfl ?hy_17) ?hrest_17
      case hy_17 => (intro w_ hS_; (first | (go_simp; done) | (go_simp; with_reducible rfl)))
      try simp only [Act.put, List.setIfInBounds_toArray, List.set_cons_zero, List.set_cons_succ]
      refine wpAnyL_take 17 (oi := ⟨(some 30), (.move (.tmp 0)), 23, "wire.go:103", #[], none⟩) (v := ?v_18) rfl (by kernel_rfl) (fun _ _ _ h => h) hSw0 (yieldsIf_of rfl ?hy_18) ?hrest_18
      case hy_18 => (intro w_ hS_; (first | (go_simp; done) | (go_simp; with_reducible rfl)))
      try simp only [Act.put, List.setIfInBounds_toArray, List.set_cons_zero, List.set_cons_succ]
      refine wpAnyL_take 18 (oi := ⟨(some 31), (.indexAddr 23 (.tmp 30) (.const (.int .i64 3))), 0, "wire.go:103", #[⟨17, .data⟩], none⟩) (v := ?v_19) rfl (by kernel_rfl) (fun _ _ _ h => h) hSw0 (yieldsIf_of rfl ?hy_19) ?hrest_19
      case hy_19 => (intro w_ hS_; (first | (go_simp; done) | (go_simp; with_reducible rfl)))
      try simp only [Act.put, List.setIfInBounds_toArray, List.set_cons_zero, List.set_cons_succ]
      refine wpAnyL_take 19 (oi := ⟨(some 32), (.load 5 (.tmp 31)), 5, "wire.go:103", #[⟨18, .data⟩], none⟩) (v := ?v_20) rfl (by kernel_rfl) (fun _ _ _ h => h) hSw0 (yieldsIf_of rfl ?hy_20) ?hrest_20
      case hy_20 => (intro w_ hS_; have c0 := hS_.cell0 b0; have c1 := hS_.cell0 b1; have c2 := hS_.cell0 b2; have c3 := hS_.cell0 b3; (first | (go_simp; done) | (go_simp; with_reducible rfl)))
      try simp only [Act.put, List.setIfInBounds_toArray, List.set_cons_zero, List.set_cons_succ]
      refine wpAnyL_take 20 (oi := ⟨(some 33), (.convert 5 160 (.tmp 32)), 160, "wire.go:103", #[⟨19, .data⟩], none⟩) (v := ?v_21) rfl (by kernel_rfl) (fun _ _ _ h => h) hSw0 (yieldsIf_of rfl ?hy_21) ?hrest_21
      case hy_21 => (intro w_ hS_; (first | (go_simp; done) | (go_simp; with_reducible rfl)))
      try simp only [Act.put, List.setIfInBounds_toArray, List.set_cons_zero, List.set_cons_succ]
      refine wpAnyL_take 21 (oi := ⟨(some 34), (.binOp .shl 160 (.tmp 33) (.const (.int .u64 24)) 165), 160, "wire.go:103", #[⟨20, .data⟩], none⟩) (v := ?v_22) rfl (by kernel_rfl) (fun _ _ _ h => h) hSw0 (yieldsIf_of rfl ?hy_22) ?hrest_22
      case hy_22 => (intro w_ hS_; (first | (go_simp; done) | (go_simp; with_reducible rfl)))
      try simp only [Act.put, List.setIfInBounds_toArray, List.set_cons_zero, List.set_cons_succ]
      refine wpAnyL_take 22 (oi := ⟨(some 35), (.binOp .or 160 (.tmp 29) (.tmp 34) 160), 160, "wire.go:103", #[⟨16, .data⟩, ⟨21, .data⟩], none⟩) (v := ?v_23) rfl (by kernel_rfl) (fun _ _ _ h => h) hSw0 (yieldsIf_of rfl ?hy_23) ?hrest_23
      case hy_23 => (intro w_ hS_; (first | (go_simp; done) | (go_simp; with_reducible rfl)))
      try simp only [Act.put, List.setIfInBounds_toArray, List.set_cons_zero, List.set_cons_succ]
      refine wpAnyL_take 23 (oi := ⟨(some 36), (.binOp .xor 160 (.tmp 13) (.tmp 35) 160), 160, "wire.go:103", #[⟨0, .data⟩, ⟨22, .data⟩], none⟩) (v := ?v_24) rfl (by kernel_rfl) (fun _ _ _ h => h) hSw0 (yieldsIf_of rfl ?hy_24) ?hrest_24
      case hy_24 => (intro w_ hS_; (first | (go_simp; done) | (go_simp; with_reducible rfl)))
      try simp only [Act.put, List.setIfInBounds_toArray, List.set_cons_zero, List.set_cons_succ]
      refine wpAnyL_take 24 (oi := ⟨(some 4), (.assign (.tmp 36)), 160, "wire.go:103", #[⟨23, .data⟩, ⟨0, .phase⟩, ⟨1, .phase⟩, ⟨2, .phase⟩, ⟨3, .phase⟩, ⟨4, .phase⟩, ⟨5, .phase⟩, ⟨6, .phase⟩, ⟨7, .phase⟩, ⟨8, .phase⟩, ⟨9, .phase⟩, ⟨10, .phase⟩, ⟨11, .phase⟩, ⟨12, .phase⟩, ⟨13, .phase⟩, ⟨14, .phase⟩, ⟨15, .phase⟩, ⟨16, .phase⟩, ⟨17, .phase⟩, ⟨18, .phase⟩, ⟨19, .phase⟩, ⟨20, .phase⟩, ⟨21, .phase⟩, ⟨22, .phase⟩, ⟨23, .phase⟩], none⟩) (v := ?v_25) rfl (by kernel_rfl) (fun _ _ _ h => h) hSw0 (yieldsIf_of rfl ?hy_25) ?hrest_25
      case hy_25 => (intro w_ hS_; (first | (go_simp; done) | (go_simp; with_reducible rfl)))
      try simp only [Act.put, List.setIfInBounds_toArray, List.set_cons_zero, List.set_cons_succ]
      refine wpAnyL_done (by kernel_rfl) ?_ _
      have q0 : IntKind.u32.wrap (l2[0].toNat : Int) = (l2[0].toNat : Int) := wraps_u32' _ (by omega) (by omega)
      have q1 : IntKind.u32.wrap (l2[1].toNat : Int) = (l2[1].toNat : Int) := wraps_u32' _ (by omega) (by omega)
      have q2 : IntKind.u32.wrap (l2[2].toNat : Int) = (l2[2].toNat : Int) := wraps_u32' _ (by omega) (by omega)
      have q3 : IntKind.u32.wrap (l2[3].toNat : Int) = (l2[3].toNat : Int) := wraps_u32' _ (by omega) (by omega)
      simp only [q0, q1, q2, q3, w1', w2', w3']
      have hx4 : bits .xor .u32 x (bits .or .u32 (bits .or .u32 (bits .or .u32 (l2[0].toNat : Int) ((l2[1].toNat : Int) * 256)) ((l2[2].toNat : Int) * 65536)) ((l2[3].toNat : Int) * 16777216)) = crc4in x l2[0] l2[1] l2[2] l2[3] := rfl
      rw [hx4]
      have hu4 : U32 (crc4in x l2[0] l2[1] l2[2] l2[3]) := bits32 _ _ _
      clear hx4 q0 q1 q2 q3 w1' w2' w3' b0 b1 b2 b3 i0 i1 i2 i3 y0 y1 y2 y3
      generalize hX : crc4in x l2[0] l2[1] l2[2] l2[3] = X at hu4 ⊢
      have hXu := hu4
      obtain ⟨ua, ub⟩ := hu4
      have a0 := and255 hXu
      have a1 : bits .and .u32 (X / 256) 255 = X / 256 % 256 := and255 ⟨by omega, by omega⟩
      have a2 : bits .and .u32 (X / 65536) 255 = X / 65536 % 256 := and255 ⟨by omega, by omega⟩
      have cellT : ∀ k i, k < 4 → i < 256 → wr.cell? ⟨w.heap.size, k * 256 + i, none⟩ = some (.int .u32 (tab k i)) := fun k i hk hi => by
        rw [cell_of_row wr _ _ _ _ _ HG.out]; exact HT.out k i hk hi
      have t3 : wr.cell? ⟨w.heap.size, 768 + (X % 256).toNat, none⟩ = _ := cellT 3 _ (by omega) (by omega)
      have t2 : wr.cell? ⟨w.heap.size, 512 + (X / 256 % 256).toNat, none⟩ = _ := cellT 2 _ (by omega) (by omega)
      have t1 : wr.cell? ⟨w.heap.size, 256 + (X / 65536 % 256).toNat, none⟩ = _ := cellT 1 _ (by omega) (by omega)
      have t0 : wr.cell? ⟨w.heap.size, (X / 16777216).toNat, none⟩ = some (.int .u32 (tab 0 (X / 16777216).toNat)) := by simpa using cellT 0 (X / 16777216).toNat (by omega) (by omega)
      have r0 : 0 ≤ X % 256 := by omega
      have r1 : 0 ≤ X / 256 % 256 := by omega
      have r2 : 0 ≤ X / 65536 % 256 := by omega
      have r3 : 0 ≤ X / 16777216 := by omega
      have s0 : X % 256 < 256 := by omega
      have s1 : X / 256 % 256 < 256 := by omega
      have s2 : X / 65536 % 256 < 256 := by omega
      have s3 : X / 16777216 < 256 := by omega
      clear cellT
      go_wp2
      refine wp_region_L (Fr C0 wr) [] (by kernel_rfl) ?_
      have hSw0 : (Fr C0 wr) _ := ((Fr.refl _ wr).drew).drew
      refine wpAnyL_take 0 (oi := ⟨(some 37), (.move (.tmp 4)), 160, "wire.go:104", #[], none⟩) (v := ?v_26) rfl (by kernel_rfl) (fun _ _ _ h => h) hSw0 (yieldsIf_of rfl ?hy_26) ?hrest_26
      case hy_26 => (intro w_ hS_; (first | (go_simp; done) | (go_simp; with_reducible rfl)))
      try simp only [Act.put, List.setIfInBounds_toArray, List.set_cons_zero, List.set_cons_succ]
      refine wpAnyL_take 1 (oi := ⟨(some 38), (.binOp .and 160 (.tmp 37) (.const (.int .u32 255)) 160), 160, "wire.go:104", #[⟨0, .data⟩], none⟩) (v := ?v_27) rfl (by kernel_rfl) (fun _ _ _ h => h) hSw0 (yieldsIf_of rfl ?hy_27) ?hrest_27
      case hy_27 => (intro w_ hS_; (first | (go_simp; done) | (go_simp; with_reducible rfl)))
      try simp only [Act.put, List.setIfInBounds_toArray, List.set_cons_zero, List.set_cons_succ]
      refine wpAnyL_take 2 (oi := ⟨(some 39), (.indexAddr 172 (.tmp 3) (.const (.int .i64 3))), 0, "wire.go:104", #[], none⟩) (v := ?v_28) rfl (by kernel_rfl) (fun _ _ _ h => h) hSw0 (yieldsIf_of rfl ?hy_28) ?hrest_28
      case hy_28 => (intro w_ hS_; (first | (go_simp; done) | (go_simp; with_reducible rfl)))
      try simp only [Act.put, List.setIfInBounds_toArray, List.set_cons_zero, List.set_cons_succ]
      refine wpAnyL_take 3 (oi := ⟨(some 40), (.indexAddr 170 (.tmp 39) (.tmp 38)), 0, "wire.go:104", #[⟨2, .data⟩, ⟨1, .data⟩], none⟩) (v := ?v_29) rfl (by kernel_rfl) (fun _ _ _ h => h) hSw0 (yieldsIf_of rfl ?hy_29) ?hrest_29
      case hy_29 => (intro w_ hS_; (first | (go_simp; done) | (go_simp; with_reducible rfl)))
      try simp only [Act.put, List.setIfInBounds_toArray, List.set_cons_zero, List.set_cons_succ]
      refine wpAnyL_take 4 (oi := ⟨(some 41), (.load 160 (.tmp 40)), 160, "wire.go:104", #[⟨3, .data⟩], none⟩) (v := ?v_30) rfl (by kernel_rfl) (fun _ _ _ h => h) hSw0 (yieldsIf_of rfl ?hy_30) ?hrest_30
      case hy_30 => (intro w_ hS_; have c0 := hS_.cell0 t0; have c1 := hS_.cell0 t1; have c2 := hS_.cell0 t2; have c3 := hS_.cell0 t3; (first | (go_simp; done) | (go_simp; with_reducible rfl)))
      try simp only [Act.put, List.setIfInBounds_toArray, List.set_cons_zero, List.set_cons_succ]
      refine wpAnyL_take 5 (oi := ⟨(some 42), (.move (.tmp 4)), 160, "wire.go:104", #[], none⟩) (v := ?v_31) rfl (by kernel_rfl) (fun _ _ _ h => h) hSw0 (yieldsIf_of rfl ?hy_31) ?hrest_31
      case hy_31 => (intro w_ hS_; (first | (go_simp; done) | (go_simp; with_reducible rfl)))
      try simp only [Act.put, List.setIfInBounds_toArray, List.set_cons_zero, List.set_cons_succ]
      refine wpAnyL_take 6 (oi := ⟨(some 43), (.binOp .shr 160 (.tmp 42) (.const (.int .u64 8)) 165), 160, "wire.go:104", #[⟨5, .data⟩], none⟩) (v := ?v_32) rfl (by kernel_rfl) (fun _ _ _ h => h) hSw0 (yieldsIf_of rfl ?hy_32) ?hrest_32
      case hy_32 => (intro w_ hS_; (first | (go_simp; done) | (go_simp; with_reducible rfl)))
      try simp only [Act.put, List.setIfInBounds_toArray, List.set_cons_zero, List.set_cons_succ]
      refine wpAnyL_take 7 (oi := ⟨(some 44), (.binOp .and 160 (.tmp 43) (.const (.int .u32 255)) 160), 160, "wire.go:104", #[⟨6, .data⟩], none⟩) (v := ?v_33) rfl (by kernel_rfl) (fun _ _ _ h => h) hSw0 (yieldsIf_of rfl ?hy_33) ?hrest_33
      case hy_33 => (intro w_ hS_; (first | (go_simp; done) | (go_simp; with_reducible rfl)))
      try simp only [Act.put, List.setIfInBounds_toArray, List.set_cons_zero, List.set_cons_succ]
      refine wpAnyL_take 8 (oi := ⟨(some 45), (.indexAddr 172 (.tmp 3) (.const (.int .i64 2))), 0, "wire.go:104", #[], none⟩) (v := ?v_34) rfl (by kernel_rfl) (fun _ _ _ h => h) hSw0 (yieldsIf_of rfl ?hy_34) ?hrest_34
      case hy_34 => (intro w_ hS_; (first | (go_simp; done) | (go_simp; with_reducible rfl)))
      try simp only [Act.put, List.setIfInBounds_toArray, List.set_cons_zero, List.set_cons_succ]
      refine wpAnyL_take 9 (oi := ⟨(some 46), (.indexAddr 170 (.tmp 45) (.tmp 44)), 0, "wire.go:104", #[⟨8, .data⟩, ⟨7, .data⟩], none⟩) (v := ?v_35) rfl (by kernel_rfl) (fun _ _ _ h => h) hSw0 (yieldsIf_of rfl ?hy_35) ?hrest_35
      case hy_35 => (intro w_ hS_; (first | (go_simp; done) | (go_simp; with_reducible rfl)))
      try simp only [Act.put, List.setIfInBounds_toArray, List.set_cons_zero, List.set_cons_succ]
      refine wpAnyL_take 10 (oi := ⟨(some 47), (.load 160 (.tmp 46)), 160, "wire.go:104", #[⟨9, .data⟩], none⟩) (v := ?v_36) rfl (by kernel_rfl) (fun _ _ _ h => h) hSw0 (yieldsIf_of rfl ?hy_36) ?hrest_36
      case hy_36 => (intro w_ hS_; have c0 := hS_.cell0 t0; have c1 := hS_.cell0 t1; have c2 := hS_.cell0 t2; have c3 := hS_.cell0 t3; (first | (go_simp; done) | (go_simp; with_reducible rfl)))
      try simp only [Act.put, List.setIfInBounds_toArray, List.set_cons_zero, List.set_cons_succ]
      refine wpAnyL_take 11 (oi := ⟨(some 48), (.binOp .xor 160 (.tmp 41) (.tmp 47) 160), 160, "wire.go:104", #[⟨4, .data⟩, ⟨10, .data⟩], none⟩) (v := ?v_37) rfl (by kernel_rfl) (fun _ _ _ h => h) hSw0 (yieldsIf_of rfl ?hy_37) ?hrest_37
      case hy_37 => (intro w_ hS_; (first | (go_simp; done) | (go_simp; with_reducible rfl)))
      try simp only [Act.put, List.setIfInBounds_toArray, List.set_cons_zero, List.set_cons_succ]
      refine wpAnyL_take 12 (oi := ⟨(some 49), (.move (.tmp 4)), 160, "wire.go:104", #[], none⟩) (v := ?v_38) rfl (by kernel_rfl) (fun _ _ _ h => h) hSw0 (yieldsIf_of rfl ?hy_38) ?hrest_38
      case hy_38 => (intro w_ hS_; (first | (go_simp; done) | (go_simp; with_reducible rfl)))
      try simp only [Act.put, List.setIfInBounds_toArray, List.set_cons_zero, List.set_cons_succ]
      refine wpAnyL_take 13 (oi := ⟨(some 50), (.binOp .shr 160 (.tmp 49) (.const (.int .u64 16)) 165), 160, "wire.go:104", #[⟨12, .data⟩], none⟩) (v := ?v_39) rfl (by kernel_rfl) (fun _ _ _ h => h) hSw0 (yieldsIf_of rfl ?hy_39) ?hrest_39
      case hy_39 => (intro w_ hS_; (first | (go_simp; done) | (go_simp; with_reducible rfl)))
      try simp only [Act.put, List.setIfInBounds_toArray, List.set_cons_zero, List.set_cons_succ]
      refine wpAnyL_take 14 (oi := ⟨(some 51), (.binOp .and 160 (.tmp 50) (.const (.int .u32 255)) 160), 160, "wire.go:104", #[⟨13, .data⟩], none⟩) (v := ?v_40) rfl (by kernel_rfl) (fun _ _ _ h => h) hSw0 (yieldsIf_of rfl ?hy_40) ?hrest_40
      case hy_40 => (intro w_ hS_; (first | (go_simp; done) | (go_simp; with_reducible rfl)))
      try simp only [Act.put, List.setIfInBounds_toArray, List.set_cons_zero, List.set_cons_succ]
      refine wpAnyL_take 15 (oi := ⟨(some 52), (.indexAddr 172 (.tmp 3) (.const (.int .i64 1))), 0, "wire.go:104", #[], none⟩) (v := ?v_41) rfl (by kernel_rfl) (fun _ _ _ h => h) hSw0 (yieldsIf_of rfl ?hy_41) ?hrest_41
      case hy_41 => (intro w_ hS_; (first | (go_simp; done) | (go_simp; with_reducible rfl)))
      try simp only [Act.put, List.setIfInBounds_toArray, List.set_cons_zero, List.set_cons_succ]
      refine wpAnyL_take 16 (oi := ⟨(some 53), (.indexAddr 170 (.tmp 52) (.tmp 51)), 0, "wire.go:104", #[⟨15, .data⟩, ⟨14, .data⟩], none⟩) (v := ?v_42) rfl (by kernel_rfl) (fun _ _ _ h => h) hSw0 (yieldsIf_of rfl ?hy_42) ?hrest_42
      case hy_42 => (intro w_ hS_; (first | (go_simp; done) | (go_simp; with_reducible rfl)))
      try simp only [Act.put, List.setIfInBounds_toArray, List.set_cons_zero, List.set_cons_succ]
      refine wpAnyL_take 17 (oi := ⟨(some 54), (.load 160 (.tmp 53)), 160, "wire.go:104", #[⟨16, .data⟩], none⟩) (v := ?v_43) rfl (by kernel_rfl) (fun _ _ _ h => h) hSw0 (yieldsIf_of rfl ?hy_43) ?hrest_43
      case hy_43 => (intro w_ hS_; have c0 := hS_.cell0 t0; have c1 := hS_.cell0 t1; have c2 := hS_.cell0 t2; have c3 := hS_.cell0 t3; (first | (go_simp; done) | (go_simp; with_reducible rfl)))
      try simp only [Act.put, List.setIfInBounds_toArray, List.set_cons_zero, List.set_cons_succ]
      refine wpAnyL_take 18 (oi := ⟨(some 55), (.binOp .xor 160 (.tmp 48) (.tmp 54) 160), 160, "wire.go:104", #[⟨11, .data⟩, ⟨17, .data⟩], none⟩) (v := ?v_44) rfl (by kernel_rfl) (fun _ _ _ h => h) hSw0 (yieldsIf_of rfl ?hy_44) ?hrest_44
      case hy_44 => (intro w_ hS_; (first | (go_simp; done) | (go_simp; with_reducible rfl)))
      try simp only [Act.put, List.setIfInBounds_toArray, List.set_cons_zero, List.set_cons_succ]
      refine wpAnyL_take 19 (oi := ⟨(some 56), (.move (.tmp 4)), 160, "wire.go:104", #[], none⟩) (v := ?v_45) rfl (by kernel_rfl) (fun _ _ _ h => h) hSw0 (yieldsIf_of rfl ?hy_45) ?hrest_45
      case hy_45 => (intro w_ hS_; (first | (go_simp; done) | (go_simp; with_reducible rfl)))
      try simp only [Act.put, List.setIfInBounds_toArray, List.set_cons_zero, List.set_cons_succ]
      refine wpAnyL_take 20 (oi := ⟨(some 57), (.binOp .shr 160 (.tmp 56) (.const (.int .u64 24)) 165), 160, "wire.go:104", #[⟨19, .data⟩], none⟩) (v := ?v_46) rfl (by kernel_rfl) (fun _ _ _ h => h) hSw0 (yieldsIf_of rfl ?hy_46) ?hrest_46
      case hy_46 => (intro w_ hS_; (first | (go_simp; done) | (go_simp; with_reducible rfl)))
      try simp only [Act.put, List.setIfInBounds_toArray, List.set_cons_zero, List.set_cons_succ]
      refine wpAnyL_take 21 (oi := ⟨(some 58), (.indexAddr 172 (.tmp 3) (.const (.int .i64 0))), 0, "wire.go:104", #[], none⟩) (v := ?v_47) rfl (by kernel_rfl) (fun _ _ _ h => h) hSw0 (yieldsIf_of rfl ?hy_47) ?hrest_47
      case hy_47 => (intro w_ hS_; (first | (go_simp; done) | (go_simp; with_reducible rfl)))
      try simp only [Act.put, List.setIfInBounds_toArray, List.set_cons_zero, List.set_cons_succ]
      refine wpAnyL_take 22 (oi := ⟨(some 59), (.indexAddr 170 (.tmp 58) (.tmp 57)), 0, "wire.go:104", #[⟨21, .data⟩, ⟨20, .data⟩], none⟩) (v := ?v_48) rfl (by kernel_rfl) (fun _ _ _ h => h) hSw0 (yieldsIf_of rfl ?hy_48) ?hrest_48
      case hy_48 => (intro w_ hS_; (first | (go_simp; done) | (go_simp; with_reducible rfl)))
      try simp only [Act.put, List.setIfInBounds_toArray, List.set_cons_zero, List.set_cons_succ]
      refine wpAnyL_take 23 (oi := ⟨(some 60), (.load 160 (.tmp 59)), 160, "wire.go:104", #[⟨22, .data⟩], none⟩) (v := ?v_49) rfl (by kernel_rfl) (fun _ _ _ h => h) hSw0 (yieldsIf_of rfl ?hy_49) ?hrest_49
      case hy_49 => (intro w_ hS_; have c0 := hS_.cell0 t0; have c1 := hS_.cell0 t1; have c2 := hS_.cell0 t2; have c3 := hS_.cell0 t3; (first | (go_simp; done) | (go_simp; with_reducible rfl)))
      try simp only [Act.put, List.setIfInBounds_toArray, List.set_cons_zero, List.set_cons_succ]
      refine wpAnyL_take 24 (oi := ⟨(some 61), (.binOp .xor 160 (.tmp 55) (.tmp 60) 160), 160, "wire.go:104", #[⟨18, .data⟩, ⟨23, .data⟩], none⟩) (v := ?v_50) rfl (by kernel_rfl) (fun _ _ _ h => h) hSw0 (yieldsIf_of rfl ?hy_50) ?hrest_50
      case hy_50 => (intro w_ hS_; (first | (go_simp; done) | (go_simp; with_reducible rfl)))
      try simp only [Act.put, List.setIfInBounds_toArray, List.set_cons_zero, List.set_cons_succ]
      refine wpAnyL_take 25 (oi := ⟨(some 4), (.assign (.tmp 61)), 160, "wire.go:104", #[⟨24, .data⟩, ⟨0, .phase⟩, ⟨1, .phase⟩, ⟨2, .phase⟩, ⟨3, .phase⟩, ⟨4, .phase⟩, ⟨5, .phase⟩, ⟨6, .phase⟩, ⟨7, .phase⟩, ⟨8, .phase⟩, ⟨9, .phase⟩, ⟨10, .phase⟩, ⟨11, .phase⟩, ⟨12, .phase⟩, ⟨13, .phase⟩, ⟨14, .phase⟩, ⟨15, .phase⟩, ⟨16, .phase⟩, ⟨17, .phase⟩, ⟨18, .phase⟩, ⟨19, .phase⟩, ⟨20, .phase⟩, ⟨21, .phase⟩, ⟨22, .phase⟩, ⟨23, .phase⟩, ⟨24, .phase⟩], none⟩) (v := ?v_51) rfl (by kernel_rfl) (fun _ _ _ h => h) hSw0 (yieldsIf_of rfl ?hy_51) ?hrest_51
      case hy_51 => (intro w_ hS_; (first | (go_simp; done) | (go_simp; with_reducible rfl)))
      try simp only [Act.put, List.setIfInBounds_toArray, List.set_cons_zero, List.set_cons_succ]
      refine wpAnyL_done (by kernel_rfl) ?_ _
      go_wp2
      refine ⟨?_, by simp; omega⟩
      have hdr := HB.out.drop (i := 4) h4
      have hform : (if c = 4 then some (⟨g, o, none⟩ : Addr) else some ⟨g, o + 4, none⟩) = (if c = 4 then some (⟨g, o, none⟩ : Addr) else (some (⟨g, o, none⟩ : Addr)).map (·.add 4)) := by
        split <;> rfl
      have hfin : crcAll (crc4out X) (l2.drop 4) = crcAll x l2 := by
        obtain ⟨a, b, c', d, l3, rfl⟩ : ∃ a b c' d l3, l2 = a :: b :: c' :: d :: l3 := by
          match l2, h4 with
          | a :: b :: c' :: d :: l3, _ => exact ⟨a, b, c', d, l3, rfl⟩
        rw [← hX]; rfl
      have hlen : (l2.drop 4).length = l2.length - 4 := by simp
      refine ⟨_, _, l2.drop 4, crc4out X, by rw [hform, hlen], by rw [hlen]; omega, by rw [hlen]; omega, rfl, Lib.hid ?_, Lib.hid (hfin.trans HC.out), Lib.hid (bits32 _ _ _), Lib.hid HF.out.drew.drew, HG⟩
      rw [hlen]
      exact hdr.fr0 (Fr.refl C0 wr).drew.drew
    · go_wp2
      go_loopw [4, 6, 64] (fun r _ i wr2 => ∃ (k : Nat) (x : Int), k ≤ l2.length ∧ r = .int .u32 x ∧ i = .int .i64 (k : Int) ∧ Hid (crcAll x (l2.drop k) = crcAll 4294967295 l) ∧ Hid (U32 x) ∧ wr2 = wr) (fun _ _ i _ => l2.length - (intOf i).toNat)
      case atStart => exact ⟨0, x, by omega, rfl, rfl, HC, HU, rfl⟩
      case round =>
        clear HC HU
        obtain ⟨k, x, hk, rfl, rfl, HC, HU, rfl⟩ := hrel
        by_cases hlt : k < l2.length
        · obtain ⟨g, o, rfl, _, b0⟩ := HB.out.at_ k hlt
          have y0 := l2[k].toNat_lt
          have hu := HU.out
          obtain ⟨ua, ub⟩ := hu
          obtain ⟨m0, m1⟩ := bits8 .xor (x % 256) (l2[k].toNat : Int)
          have t0 : wr.cell? ⟨w.heap.size, (bits .xor .u8 (x % 256) (l2[k].toNat : Int)).toNat, none⟩ = some (.int .u32 (tab 0 (bits .xor .u8 (x % 256) (l2[k].toNat : Int)).toNat)) := by
            rw [cell_of_row wr _ _ _ _ _ HG.out]; simpa using HT.out 0 _ (by omega) (show (bits .xor .u8 (x % 256) (l2[k].toNat : Int)).toNat < 256 by omega)
          go_wp2
          go_roundw
          case rel =>
            have e := HC.out
            rw [List.drop_eq_getElem_cons hlt, crcAll_one _ _ _ (by simp; omega)] at e
            exact ⟨k + 1, crcByte x l2[k], by omega, rfl, by go_num, Lib.hid e, Lib.hid (bits32 _ _ _), by trivial⟩
          case measure => simp [intOf]; omega
        · obtain rfl : k = l2.length := by omega
          go_wp2
          go_ret
          have e := HC.out
          rw [List.drop_length] at e
          have e2 : x = crcAll 4294967295 l := e
          refine ⟨?_, HF.out⟩
          subst e2
          rfl
end Go.Proofs.Ytcmicdcikechkaa
end
